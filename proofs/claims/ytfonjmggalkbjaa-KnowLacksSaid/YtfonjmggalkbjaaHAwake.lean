/- By hand: the chapter's example. -/
import Derived.Test.YtfonjmggalkbjaaHKnowP
namespace Go.Proofs.Ytfonjmggalkbjaa.P
open Go.RowKit Go.Proofs.YtfonjmggalkbjaaW.PrintWords Go.Proofs.YtfonjmggalkbjaaW.PrintLast Go.Proofs.YtfonjmggalkbjaaW.PrintMore
set_option linter.unusedVariables false
set_option linter.unusedSimpArgs false
section
variable (w : World)
theorem key_n (n : Int) : Calls Try.prog 26 #[.int .i64 n] w fun e w' => ∃ A c, e = .returned (.agg #[.int .i64 1, .int .i64 n, .slice A 0 c]) ∧ Kd.C k24 w' A 0 ([] : List S24) ∧ Below w.heap.size w w' := by
  refine (pelicanlaw06_Key.calls n 1 n [] w rfl).mono ?_
  rintro e w' ⟨v, rfl, hN, hb⟩
  obtain ⟨A, c, rfl, _, hC⟩ := Kd.R_reads hN
  exact ⟨A, c, rfl, hC, hb⟩
theorem word_n (n : Int) : Calls Try.prog 27 #[.int .i64 n] w fun e w' => ∃ A c, e = .returned (.agg #[.int .i64 0, .int .i64 n, .slice A 0 c]) ∧ Kd.C k24 w' A 0 ([] : List S24) ∧ Below w.heap.size w w' := by
  refine (pelicanlaw06_Word.calls n 0 n [] w rfl).mono ?_
  rintro e w' ⟨v, rfl, hN, hb⟩
  obtain ⟨A, c, rfl, _, hC⟩ := Kd.R_reads hN
  exact ⟨A, c, rfl, hC, hb⟩
theorem tag_n (n m : Int) (A B : Option Addr) (c d : Nat) (hA : Kd.C k24 w A 0 ([] : List S24)) (hB : Kd.C k24 w B 0 ([] : List S24)) :
    Calls Try.prog 24 #[.agg #[.int .i64 1, .int .i64 n, .slice A 0 c], .agg #[.int .i64 0, .int .i64 m, .slice B 0 d]] w fun e w' => ∃ T t, e = .returned (.agg #[.int .i64 3, .int .i64 0, .slice T 2 t]) ∧ Kd.C k24 w' T 2 [⟨1, n, []⟩, ⟨0, m, []⟩] ∧ 2 ≤ t ∧ Below w.heap.size w w' := by
  refine (pelicanlaw06_Tag.calls 1 n (fun k => k < w.heap.size) A c [] 0 m (fun k => k < w.heap.size) B d [] _ _ _ w ⟨A, c, rfl, Nat.zero_le _, Kd.C_F k24_heap hA⟩ ⟨B, d, rfl, Nat.zero_le _, Kd.C_F k24_heap hB⟩ rfl).mono ?_
  rintro e w' ⟨v, rfl, hN, hb⟩
  obtain ⟨T, t, rfl, h2, hC⟩ := Kd.N_reads hN
  exact ⟨T, t, rfl, hC, h2, hb⟩
variable (A : Option Addr) (n c : Nat) (l : List S24) (hl : l.length = n) (hc : n ≤ c) (hC : Kd.C k24 w A n l)
include hl hc hC
theorem kmay_n (r : Bool) (h : know_May.f l = some r) : Calls Try.prog 20 #[.slice A n c] w fun e w' => e = .returned (.bool r) ∧ Below w.heap.size w w' := by
  subst hl; exact know_May.calls A c l r w hC hc h
theorem parts_n (r : List S24) (h : know_Parts.f l = some r) : Calls Try.prog 14 #[.slice A n c] w fun e w' => ∃ B d, e = .returned (.slice B r.length d) ∧ r.length ≤ d ∧ Kd.C k24 w' B r.length r ∧ Below w.heap.size w w' := by
  subst hl
  refine (know_Parts.calls (fun k => k < w.heap.size) A c l r w ⟨A, c, rfl, hc, Kd.C_F k24_heap hC⟩ h).mono ?_
  rintro e w' ⟨v, rfl, hN, hb⟩
  obtain ⟨B, d, rfl, h2, hB⟩ := Kd.N_reads hN
  exact ⟨B, d, rfl, h2, hB, hb⟩
theorem ksame_n (r : Bool) (h : know_Same.f l l = some r) : Calls Try.prog 22 #[.slice A n c, .slice A n c] w fun e w' => e = .returned (.bool r) ∧ Below w.heap.size w w' := by
  subst hl; exact know_Same.calls A c l A c l r w hC hc hC hc h
variable (a b : Int) (B : Option Addr) (m d : Nat) (k : List S24) (hk : k.length = m) (hd : m ≤ d) (hB : Kd.C k24 w B m k)
include hk hd hB
theorem makes_n (r : Bool) (h : know_Makes.f l a b k = some r) : Calls Try.prog 21 #[.slice A n c, .agg #[.int .i64 a, .int .i64 b, .slice B m d]] w fun e w' => e = .returned (.bool r) ∧ Below w.heap.size w w' := by
  subst hl hk; exact know_Makes.calls A c l a b B d k r w hC hc hB hd h
theorem lacks_n (r : List S24) (h : know_Lacks.f l a b k = some r) : Calls Try.prog 16 #[.slice A n c, .agg #[.int .i64 a, .int .i64 b, .slice B m d]] w fun e w' => ∃ D f, e = .returned (.slice D r.length f) ∧ r.length ≤ f ∧ Kd.C k24 w' D r.length r ∧ Below w.heap.size w w' := by
  subst hl hk
  refine (know_Lacks.calls A c l a b (fun k => k < w.heap.size) B d k r w hC hc ⟨B, d, rfl, hd, Kd.C_F k24_heap hB⟩ h).mono ?_
  rintro e w' ⟨v, rfl, hN, hb⟩
  obtain ⟨D, f, rfl, h2, hD⟩ := Kd.N_reads hN
  exact ⟨D, f, rfl, h2, hD, hb⟩
end
abbrev k1_ : S24 := ⟨1, 1, []⟩
abbrev w5_ : S24 := ⟨0, 5, []⟩
abbrev w6_ : S24 := ⟨0, 6, []⟩
abbrev w9_ : S24 := ⟨0, 9, []⟩
abbrev t5_ : S24 := ⟨3, 0, [⟨1, 1, []⟩, ⟨0, 5, []⟩]⟩
abbrev t6_ : S24 := ⟨3, 0, [⟨1, 1, []⟩, ⟨0, 6, []⟩]⟩
theorem aw_size : lsize [t5_] ≤ 1000000 := by simp [lsize, tsize]
theorem aw_may : know_May.f [t5_] = some true := by unfold know_May.f; rw [show mayL [t5_] = true by kernel_rfl]
theorem aw_lacks : know_Lacks.f [t5_] 3 0 [⟨1, 1, []⟩, ⟨0, 6, []⟩] = some [k1_] := by
  have h := lacks_f [t5_] t6_ aw_size (by simp [lsize, tsize])
  rw [show (if mayL [t5_] = true ∧ mayT t6_ = true then addAll [] (missT (partsOf [t5_]) t6_) else []) = [k1_] by kernel_rfl] at h
  exact h
theorem aw_m5 : know_Makes.f [t5_] 3 0 [⟨1, 1, []⟩, ⟨0, 5, []⟩] = some true := by
  have h := makes_f [t5_] t5_ aw_size (by simp [lsize, tsize])
  rw [show makesB [t5_] t5_ = true by kernel_rfl] at h
  exact h
theorem aw_m6 : know_Makes.f [t5_] 3 0 [⟨1, 1, []⟩, ⟨0, 6, []⟩] = some false := by
  have h := makes_f [t5_] t6_ aw_size (by simp [lsize, tsize])
  rw [show makesB [t5_] t6_ = false by kernel_rfl] at h
  exact h
theorem aw_m9 : know_Makes.f [t5_] 0 9 [] = some true := by
  have h := makes_f [t5_] w9_ aw_size (by simp [lsize, tsize])
  rw [show makesB [t5_] w9_ = true by kernel_rfl] at h
  exact h
theorem aw_parts : know_Parts.f [t5_] = some [t5_] := by
  have h := parts_f [t5_] aw_size
  rw [show (if mayL [t5_] = true then partsOf [t5_] else []) = [t5_] by kernel_rfl] at h
  exact h
theorem aw_same : know_Same.f [t5_] [t5_] = some true := by unfold know_Same.f; rw [show sameLs [t5_] [t5_] = true by kernel_rfl]
/-- What stands, behind the list. -/
def St1 (w W : World) (g t : Nat) (T : Option Addr) : Prop := Below w.heap.size w W ∧ W.heap[g]? = some (.cells #[.int .i64 3, .int .i64 0, .slice T 2 t] 24 (0, 0)) ∧ Kd.C k24 W T 2 [k1_, w5_] ∧ 2 ≤ t
theorem St1.step {w W W' : World} {g t : Nat} {T : Option Addr} (h : St1 w W g t T) (hb : Below W.heap.size W W') : St1 w W' g t T :=
  ⟨below_step h.1 hb, blk_below h.2.1 hb, Kd.C_below h.2.2.1 hb, h.2.2.2⟩
theorem St1.C {w W : World} {g t : Nat} {T : Option Addr} (h : St1 w W g t T) : Kd.C k24 W (some ⟨g, 0, none⟩) 1 [t5_] := by
  refine ⟨rfl, by omega, fun _ => ⟨_, rfl, fun j p hj => ?_⟩⟩
  have hc : ∀ i, W.cell? ((⟨g, 0, none⟩ : Addr).add i) = #[.int .i64 3, .int .i64 0, .slice T 2 t][i]? := fun i => by
    rw [add_plain]
    exact blk_cell h.2.1 i
  rcases j with _ | j
  · simp only [List.getElem?_cons_zero, Option.some.injEq] at hj
    subst hj
    refine ⟨_, rfl, k24_mk W t5_ h.2.2.2 h.2.2.1, fun i u hu => ?_⟩
    rw [hc, Nat.zero_mul, Nat.zero_add]
    rcases i with _ | _ | _ | i
    all_goals first | (simp at hu; done) | exact hu
  · simp at hj
def St2 (w W : World) (g t : Nat) (T : Option Addr) (ad : Addr) : Prop := St1 w W g t T ∧ W.cell? ad = some (.int .i64 1)
theorem St2.step {w W W' : World} {g t : Nat} {T : Option Addr} {ad : Addr} (h : St2 w W g t T ad) (hb : Below W.heap.size W W') : St2 w W' g t T ad :=
  ⟨h.1.step hb, (hb.cell (World.block_lt_of_cell? W _ h.2)).trans h.2⟩
theorem St2.cC {w W : World} {g t : Nat} {T : Option Addr} {ad : Addr} (h : St2 w W g t T ad) : Kd.C k24 W (some ⟨g, 0, none⟩) 1 [t5_] := h.1.C
theorem St2.cT {w W : World} {g t : Nat} {T : Option Addr} {ad : Addr} (h : St2 w W g t T ad) : Kd.C k24 W T 2 [k1_, w5_] := h.1.2.2.1
theorem St2.c2 {w W : World} {g t : Nat} {T : Option Addr} {ad : Addr} (h : St2 w W g t T ad) : 2 ≤ t := h.1.2.2.2
theorem head_C {W : World} {A : Option Addr} {t : S24} (h : Kd.C k24 W A 1 [t]) : ∃ ad, A = some ad ∧ W.cell? ad = some (.int .i64 t.f0) := by
  obtain ⟨ad, _, _, e, _, h0, _⟩ := head_F (Kd.C_F k24_heap h)
  exact ⟨ad, e, h0⟩
def pelicanlaw06_awake.f : Option Bool := some true
set_option maxRecDepth 100000 in
set_option maxHeartbeats 4000000 in
theorem pelicanlaw06_awake.calls (r : Bool) (w : World) (h : pelicanlaw06_awake.f = some r) :
    Calls Try.prog 10 #[] w fun e w' => e = .returned (.bool r) ∧ Below w.heap.size w w' := by
  obtain rfl := Option.some.inj h
  clear h
  go_enter Try.func10, Try.ntmps10
  go_upto_region 2 with (first
    | (go_at_call 26; (with_reducible refine (key_n _ 1).mono ?_); rintro e w1 ⟨A1, c1, rfl, hC, hb⟩; have HC1 := Aside0.mk hC; have HB1 := Aside0.mk hb; clear hC hb)
    | (go_at_call 27; (with_reducible refine (word_n _ 5).mono ?_); rintro e w2 ⟨A2, c2, rfl, hC, hb⟩; have HC2 := Aside0.mk hC; have HC12 := Aside0.mk (Kd.C_below HC1.out hb); have HB2 := Aside0.mk (below_step HB1.out hb); clear hC hb)
    | (go_at_call 24; (with_reducible refine (tag_n _ 1 5 A1 A2 c1 c2 HC12.out HC2.out).mono ?_); rintro e w3 ⟨T, t, rfl, hC, ht, hb⟩; have HC3 := Aside0.mk hC; have HT := Aside0.mk ht; have HB3 := Aside0.mk (below_step HB2.out hb); clear hC hb ht))
  have HS : Aside0 (St1 w (w3.alloc (.cells #[.int .i64 3, .int .i64 0, .slice T 2 t] 24 (0, 0))) w3.heap.size t T) := ⟨below_alloc HB3.out _, blk_new _ _, Kd.C_alloc HC3.out _, HT.out⟩
  obtain ⟨W, hW⟩ : ∃ W, W = w3.alloc (.cells #[.int .i64 3, .int .i64 0, .slice T 2 t] 24 (0, 0)) := ⟨_, rfl⟩
  rw [← hW]
  rw [← hW] at HS
  clear hW HC1 HC2 HC12 HC3 HB1 HB2 HB3
  go_upto_region 3 with (first
    | (go_at_call 26; (with_reducible refine (key_n _ 1).mono ?_); rintro e w4 ⟨A1, c1, rfl, hC, hb⟩; have HC1 := Aside0.mk hC; have HS1 := Aside0.mk (HS.out.step hb); clear hC hb)
    | (go_at_call 27; (with_reducible refine (word_n _ 6).mono ?_); rintro e w5 ⟨A2, c2, rfl, hC, hb⟩; have HC2 := Aside0.mk hC; have HC12 := Aside0.mk (Kd.C_below HC1.out hb); have HS2 := Aside0.mk (HS1.out.step hb); clear hC hb)
    | (go_at_call 24; (with_reducible refine (tag_n _ 1 6 A1 A2 c1 c2 HC12.out HC2.out).mono ?_); rintro e w6 ⟨T6, t6, rfl, hC, ht, hb⟩; have HC3 := Aside0.mk hC; have HT6 := Aside0.mk ht; have HS3 := Aside0.mk (HS2.out.step hb); clear hC hb ht)
    | (go_at_call 16; (with_reducible refine (lacks_n _ (some ⟨w3.heap.size, 0, none⟩) 1 1 [t5_] rfl (Nat.le_refl _) HS3.out.C 3 0 T6 2 t6 _ rfl HT6.out HC3.out _ aw_lacks).mono ?_); rintro e w7 ⟨D, f, rfl, hf, hC, hb⟩; obtain ⟨ad, ea, x0⟩ := head_C hC; subst ea; have HQ := Aside0.mk (show St2 w w7 w3.heap.size t T ad from ⟨HS3.out.step hb, x0⟩); clear hC hb x0 HC1 HC2 HC12 HC3 HS HS1 HS2 HS3))
  obtain ⟨⟨k0, k1, k2⟩, j0, j1, j2⟩ := cells3 HQ.out.1.2.1
  have x0 := HQ.out.2
  go_wp2_with (first
    | (go_at_call 20; (with_reducible refine (kmay_n _ (some ⟨w3.heap.size, 0, none⟩) 1 1 [t5_] rfl (Nat.le_refl _) HQ.out.cC true aw_may).mono ?_); rintro e w_ ⟨rfl, hb⟩; have HQ := Aside0.mk (HQ.out.step hb); clear hb; clear k0 k1 k2 j0 j1 j2 x0; obtain ⟨⟨k0, k1, k2⟩, j0, j1, j2⟩ := cells3 HQ.out.1.2.1; have x0 := HQ.out.2)
    | (go_at_call 21; (with_reducible refine (makes_n _ (some ⟨w3.heap.size, 0, none⟩) 1 1 [t5_] rfl (Nat.le_refl _) HQ.out.cC 3 0 T 2 t _ rfl HQ.out.c2 HQ.out.cT true aw_m5).mono ?_); rintro e w_ ⟨rfl, hb⟩; have HQ := Aside0.mk (HQ.out.step hb); clear hb; clear k0 k1 k2 j0 j1 j2 x0; obtain ⟨⟨k0, k1, k2⟩, j0, j1, j2⟩ := cells3 HQ.out.1.2.1; have x0 := HQ.out.2)
    | (go_at_call 26; (with_reducible refine (key_n _ 1).mono ?_); rintro e w_ ⟨A1, c1, rfl, hC, hb⟩; have HC1 := Aside0.mk hC; clear hC; have HQ := Aside0.mk (HQ.out.step hb); clear hb; clear k0 k1 k2 j0 j1 j2 x0; obtain ⟨⟨k0, k1, k2⟩, j0, j1, j2⟩ := cells3 HQ.out.1.2.1; have x0 := HQ.out.2)
    | (go_at_call 27; (with_reducible refine (word_n _ 6).mono ?_); rintro e w_ ⟨A2, c2, rfl, hC, hb⟩; have HC2 := Aside0.mk hC; clear hC; have HC12 := Aside0.mk (Kd.C_below HC1.out hb); have HQ := Aside0.mk (HQ.out.step hb); clear hb; clear k0 k1 k2 j0 j1 j2 x0; obtain ⟨⟨k0, k1, k2⟩, j0, j1, j2⟩ := cells3 HQ.out.1.2.1; have x0 := HQ.out.2)
    | (go_at_call 27; (with_reducible refine (word_n _ 9).mono ?_); rintro e w_ ⟨A9, c9, rfl, hC, hb⟩; have HC9 := Aside0.mk hC; clear hC; have HQ := Aside0.mk (HQ.out.step hb); clear hb; clear k0 k1 k2 j0 j1 j2 x0; obtain ⟨⟨k0, k1, k2⟩, j0, j1, j2⟩ := cells3 HQ.out.1.2.1; have x0 := HQ.out.2)
    | (go_at_call 24; (with_reducible refine (tag_n _ 1 6 A1 A2 c1 c2 HC12.out HC2.out).mono ?_); rintro e w_ ⟨T7, t7, rfl, hC, ht, hb⟩; have HC7 := Aside0.mk hC; have HT7 := Aside0.mk ht; clear hC ht; have HQ := Aside0.mk (HQ.out.step hb); clear hb; clear k0 k1 k2 j0 j1 j2 x0; obtain ⟨⟨k0, k1, k2⟩, j0, j1, j2⟩ := cells3 HQ.out.1.2.1; have x0 := HQ.out.2)
    | (go_at_call 21; (with_reducible refine (makes_n _ (some ⟨w3.heap.size, 0, none⟩) 1 1 [t5_] rfl (Nat.le_refl _) HQ.out.cC 3 0 T7 2 t7 _ rfl HT7.out HC7.out false aw_m6).mono ?_); rintro e w_ ⟨rfl, hb⟩; have HQ := Aside0.mk (HQ.out.step hb); clear hb; clear k0 k1 k2 j0 j1 j2 x0; obtain ⟨⟨k0, k1, k2⟩, j0, j1, j2⟩ := cells3 HQ.out.1.2.1; have x0 := HQ.out.2)
    | (go_at_call 21; (with_reducible refine (makes_n _ (some ⟨w3.heap.size, 0, none⟩) 1 1 [t5_] rfl (Nat.le_refl _) HQ.out.cC 0 9 A9 0 c9 _ rfl (Nat.zero_le _) HC9.out true aw_m9).mono ?_); rintro e w_ ⟨rfl, hb⟩; have HQ := Aside0.mk (HQ.out.step hb); clear hb; clear k0 k1 k2 j0 j1 j2 x0; obtain ⟨⟨k0, k1, k2⟩, j0, j1, j2⟩ := cells3 HQ.out.1.2.1; have x0 := HQ.out.2)
    | (go_at_call 14; (with_reducible refine (parts_n _ (some ⟨w3.heap.size, 0, none⟩) 1 1 [t5_] rfl (Nat.le_refl _) HQ.out.cC _ aw_parts).mono ?_); rintro e w_ ⟨B, d, rfl, hd, hC, hb⟩; clear hC hd; have HQ := Aside0.mk (HQ.out.step hb); clear hb; clear k0 k1 k2 j0 j1 j2 x0; obtain ⟨⟨k0, k1, k2⟩, j0, j1, j2⟩ := cells3 HQ.out.1.2.1; have x0 := HQ.out.2)
    | (go_at_call 22; (with_reducible refine (ksame_n _ (some ⟨w3.heap.size, 0, none⟩) 1 1 [t5_] rfl (Nat.le_refl _) HQ.out.cC true aw_same).mono ?_); rintro e w_ ⟨rfl, hb⟩; have HQ := Aside0.mk (HQ.out.step hb); clear hb; clear k0 k1 k2 j0 j1 j2 x0; obtain ⟨⟨k0, k1, k2⟩, j0, j1, j2⟩ := cells3 HQ.out.1.2.1; have x0 := HQ.out.2))
  go_ret
  exact ⟨rfl, HQ.out.1.1⟩
end Go.Proofs.Ytfonjmggalkbjaa.P
