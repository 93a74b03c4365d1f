/- By hand: pelicanref06.lacking and Lacks. -/
import Derived.Test.YtfonjmggalkbjaaHRefParts
namespace Go.Proofs.Ytfonjmggalkbjaa.P
open Go.RowKit Go.Proofs.YtfonjmggalkbjaaW.PrintWords Go.Proofs.YtfonjmggalkbjaaW.PrintLast Go.Proofs.YtfonjmggalkbjaaW.PrintMore
set_option linter.unusedVariables false
set_option linter.unusedSimpArgs false
mutual
theorem lookT_sizes (parts : List S24) (n : Nat) (x : S24) (out : List S24) (h : ∀ z ∈ out, tsize z ≤ n) (hx : tsize x ≤ n) : ∀ z ∈ lookT parts x out, tsize z ≤ n := match x with
  | ⟨a, b, l⟩ => by
    rw [lookT]
    split
    · exact h
    · split
      · exact h
      · split
        · split
          · exact h
          · intro z hz
            rcases List.mem_append.1 hz with h1 | h1
            · exact h z h1
            · rw [List.mem_singleton] at h1; subst h1; exact hx
        · rw [tsize] at hx
          exact lookL_sizes parts n l out h (by omega)
theorem lookL_sizes (parts : List S24) (n : Nat) (l : List S24) (out : List S24) (h : ∀ z ∈ out, tsize z ≤ n) (hx : lsize l ≤ n) : ∀ z ∈ lookL parts l out, tsize z ≤ n := match l with
  | [] => by rw [lookL]; exact h
  | x :: l => by
    rw [lookL]
    rw [lsize] at hx
    exact lookL_sizes parts n l _ (lookT_sizes parts n x out h (by omega)) (by omega)
end
set_option maxHeartbeats 4000000 in
set_option maxRecDepth 100000 in
theorem lacking_calls (W1 : World) (okX : Nat → Prop) (hok : ∀ k, okX k → k < W1.heap.size) (Ap : Option Addr) (cp : Nat) (parts : List S24) (HPa : Aside0 (Kd.C k24 W1 Ap parts.length parts)) (HPc : Aside0 (parts.length ≤ cp)) (HPl : Aside0 (parts.length ≤ 1000000)) (HPs : Aside0 (∀ z ∈ parts, tsize z ≤ 1000000)) :
    ∀ (m : Nat) (x : S24) (out : List S24) (A : Option Addr) (c : Nat) (Ao : Option Addr) (co : Nat) (W : World), tsize x ≤ m → okT x = true → out.length + tsize x ≤ 1000000 → (∀ z ∈ out, tsize z ≤ 1000000) → Kd.F k24 W1 okX A x.f2.length x.f2 → x.f2.length ≤ c → Below W1.heap.size W1 W →
    Kd.N k24 24 W W1.heap.size (fun k => okX k ∨ W1.heap.size ≤ k) (.slice Ao out.length co) out →
    Calls Try.prog 37 #[.slice Ap parts.length cp, .agg #[.int .i64 x.f0, .int .i64 x.f1, .slice A x.f2.length c], .slice Ao out.length co] W fun e W' => TakQ W1 W W' (fun k => okX k ∨ W1.heap.size ≤ k) (.slice Ao out.length co) (lookT parts x out) e := by
  intro m
  induction m with
  | zero => intro x out A c Ao co W h; have := tsize_pos x; omega
  | succ m ih =>
    intro x out A c Ao co W hm hokx hsz hss hF hc hB hN
    have IH := Aside0.mk ih
    have HM := Aside0.mk hm
    have HOK := Aside0.mk hokx
    have HSZ := Aside0.mk hsz
    have HSS := Aside0.mk hss
    have HF := Aside0.mk hF
    have HCc := Aside0.mk hc
    have HB0 := Aside0.mk hB
    have HN0 := Aside0.mk hN
    have HHO := Aside0.mk hok
    have HLK := Aside0.mk (lookT_eq parts x out)
    have HX := Aside0.mk (blk_new W (.cells #[.int .i64 x.f0, .int .i64 x.f1, .slice A x.f2.length c] 24 (0, 0)))
    have HNE := Aside0.mk (fresh_ne hN)
    have HS0 := Aside0.mk (TakS.start (Kd.N_alloc hN (.cells #[.int .i64 x.f0, .int .i64 x.f1, .slice A x.f2.length c] 24 (0, 0))) (below_alloc hB (.cells #[.int .i64 x.f0, .int .i64 x.f1, .slice A x.f2.length c] 24 (0, 0))))
    have HBX := Aside0.mk (below_alloc (Below.refl W.heap.size W) (.cells #[.int .i64 x.f0, .int .i64 x.f1, .slice A x.f2.length c] 24 (0, 0)))
    have HSB0 := Aside0.mk HS0.out.2.2.2.2
    obtain ⟨⟨k0, k1, k2⟩, j0, j1, j2⟩ := cells3 HX.out
    clear ih hm hsz hss hF hc hB hN hok hokx
    obtain ⟨b1, hb1⟩ : ∃ b, inL parts x = b := ⟨_, rfl⟩
    have HB1 := Aside0.mk hb1
    cases b1 with
    | true =>
      have HE := Aside0.mk (show lookT parts x out = out by rw [HLK.out, hb1]; simp)
      clear hb1
      rw [HE.out]
      go_enter Try.func37, Try.ntmps37
      go_wp2_with (first | (go_at_call 25; (with_reducible refine (in_calls_n _ parts x Ap A cp c (Kd.C_below HPa.out HSB0.out) HPc.out (Kd.C_below (Kd.F_now HF.out) HSB0.out) HCc.out HPl.out HPs.out).mono ?_); rw [HB1.out]; rintro e w2 ⟨rfl, hb⟩; have HS2 := Aside0.mk (HS0.out.below hb); clear hb k0 k1 k2 j0 j1 j2))
      go_ret
      exact (HS2.out.head HBX.out).q
    | false =>
      by_cases h0 : x.f0 = 0
      · have g0 : (x.f0 == 0) = true := by simpa using h0
        have HE := Aside0.mk (show lookT parts x out = out by rw [HLK.out, if_pos h0])
        clear h0 hb1
        rw [HE.out]
        go_enter Try.func37, Try.ntmps37
        go_wp2_with (first | (go_at_call 25; (with_reducible refine (in_calls_n _ parts x Ap A cp c (Kd.C_below HPa.out HSB0.out) HPc.out (Kd.C_below (Kd.F_now HF.out) HSB0.out) HCc.out HPl.out HPs.out).mono ?_); rw [HB1.out]; rintro e w2 ⟨rfl, hb⟩; have HS2 := Aside0.mk (HS0.out.below hb); have HX2 := Aside0.mk (blk_below HX.out hb); clear hb k0 k1 k2 j0 j1 j2; obtain ⟨⟨k0, k1, k2⟩, j0, j1, j2⟩ := cells3 HX2.out))
        go_ret
        exact (HS2.out.head HBX.out).q
      · have g0 : (x.f0 == 0) = false := by simpa using h0
        by_cases h1 : x.f0 = 1
        · have g1 : (x.f0 == 1) = true := by simpa using h1
          obtain ⟨b2, hb2⟩ : ∃ b, inL out x = b := ⟨_, rfl⟩
          have HB2 := Aside0.mk hb2
          cases b2 with
          | true =>
            have HE := Aside0.mk (show lookT parts x out = out by rw [HLK.out, if_neg h0, if_neg (by rw [hb1]; decide), if_pos h1, if_pos hb2])
            clear h0 h1 hb1 hb2
            rw [HE.out]
            go_enter Try.func37, Try.ntmps37
            go_wp2_with (first
              | (go_at_call 25; (with_reducible refine (in_calls_n _ parts x Ap A cp c (Kd.C_below HPa.out HSB0.out) HPc.out (Kd.C_below (Kd.F_now HF.out) HSB0.out) HCc.out HPl.out HPs.out).mono ?_); rw [HB1.out]; rintro e w2 ⟨rfl, hb⟩; have HS2 := Aside0.mk (HS0.out.below hb); have HX2 := Aside0.mk (blk_below HX.out hb); have HSB2 := Aside0.mk HS2.out.2.2.2.2; have HSC2 := Aside0.mk (Kd.N_reads' HS2.out.1); clear hb k0 k1 k2 j0 j1 j2; obtain ⟨⟨k0, k1, k2⟩, j0, j1, j2⟩ := cells3 HX2.out)
              | (go_at_call 25; (with_reducible refine (in_calls_n _ out x Ao A co c HSC2.out.2.2 HSC2.out.2.1 (Kd.C_below (Kd.F_now HF.out) HSB2.out) HCc.out (by have := HSZ.out; omega) HSS.out).mono ?_); rw [HB2.out]; rintro e w3 ⟨rfl, hb⟩; have HS3 := Aside0.mk (HS2.out.below hb); clear hb k0 k1 k2 j0 j1 j2))
            go_ret
            exact (HS3.out.head HBX.out).q
          | false =>
            have HE := Aside0.mk (show lookT parts x out = out ++ [x] by rw [HLK.out, if_neg h0, if_neg (by rw [hb1]; decide), if_pos h1, if_neg (by rw [hb2]; decide)])
            clear h0 h1 hb1 hb2
            rw [HE.out]
            go_enter Try.func37, Try.ntmps37
            go_wp2_with (first
              | (go_at_call 25; (with_reducible refine (in_calls_n _ parts x Ap A cp c (Kd.C_below HPa.out HSB0.out) HPc.out (Kd.C_below (Kd.F_now HF.out) HSB0.out) HCc.out HPl.out HPs.out).mono ?_); rw [HB1.out]; rintro e w2 ⟨rfl, hb⟩; have HS2 := Aside0.mk (HS0.out.below hb); have HX2 := Aside0.mk (blk_below HX.out hb); have HSB2 := Aside0.mk HS2.out.2.2.2.2; have HSC2 := Aside0.mk (Kd.N_reads' HS2.out.1); clear hb k0 k1 k2 j0 j1 j2; obtain ⟨⟨k0, k1, k2⟩, j0, j1, j2⟩ := cells3 HX2.out)
              | (go_at_call 25; (with_reducible refine (in_calls_n _ out x Ao A co c HSC2.out.2.2 HSC2.out.2.1 (Kd.C_below (Kd.F_now HF.out) HSB2.out) HCc.out (by have := HSZ.out; omega) HSS.out).mono ?_); rw [HB2.out]; rintro e w3 ⟨rfl, hb⟩; have HS3 := Aside0.mk (HS2.out.below hb); have HX3 := Aside0.mk (blk_below HX2.out hb); clear hb k0 k1 k2 j0 j1 j2; obtain ⟨⟨k0, k1, k2⟩, j0, j1, j2⟩ := cells3 HX3.out)
              | ((with_reducible refine gate_builtin (b := .append) (xs := #[.tmp 27, .tmp 29]) rfl ?_); at_builtin; refine Kd.N_append k24 (w0 := W1) W1.heap.size rfl (.tmp 27) (.tmp 29) 22 24 zT 40 rfl Try.underlying22 info24 rfl (by decide) (by omega) (.slice Ao out.length co) out x [.int .i64 x.f0, .int .i64 x.f1, .slice A x.f2.length c] (fun k => okX k ∨ W1.heap.size ≤ k) okX rfl rfl (k24_mkF _ _ x HCc.out (Kd.F_below HF.out HS3.out.2.2.2.2)) (fun k hk => ⟨Or.inl hk, fun e => by have h1 := Kd.N_base HN0.out k e.symm; have h2 := HHO.out k hk; omega⟩) (fun k hk => Or.inr (Nat.le_trans HS3.out.2.2.2.2.size hk)) HS3.out.1 HS3.out.2.2.2.2 HS3.out.2.2.2.2.size (by have := HSZ.out; omega) ?_; intro v' w4 hN hb hg hat; obtain ⟨A3, c3, rfl⟩ := Kd.N_slice hN; have HS4 := Aside0.mk (HS3.out.trans (TakS.app hN hg hat hb)); clear hN hb hg hat))
            go_ret
            have z := (HS4.out.head HBX.out).q
            rw [List.length_append, List.length_singleton] at z
            exact z
        · have g1 : (x.f0 == 1) = false := by simpa using h1
          have HE := Aside0.mk (show lookT parts x out = lookL parts x.f2 out by rw [HLK.out, if_neg h0, if_neg (by rw [hb1]; decide), if_neg h1])
          obtain ⟨p, q, hpq, hp, hq⟩ := okT_fork HOK.out h0 h1
          clear h0 h1 hb1
          have HE2 := Aside0.mk (show lookT parts x out = lookT parts q (lookT parts p out) by rw [HE.out, hpq, lookL_two])
          have hF2 := HF.out
          rw [hpq] at hF2
          have hts := tsize_eq x
          rw [hpq, lsize, lsize, lsize] at hts
          have hlen : x.f2.length = 2 := by rw [hpq]; rfl
          have hl1 : (1 : Int) < (x.f2.length : Int) := by omega
          have hl0 : (0 : Int) < (x.f2.length : Int) := by omega
          have hl1' : 1 < x.f2.length := by omega
          have hl0' : 0 < x.f2.length := by omega
          have HC0 := Aside0.mk (Kd.F_now HF.out)
          obtain ⟨ad, A2, c2, A3, c3, eA, ⟨p0, p1, p2⟩, ⟨q0, q1, q2⟩, hlp, hFp, hlq, hFq⟩ := two_F hF2
          subst eA
          have TS := Aside0.mk hts
          have HTP := Aside0.mk (tsize_pos p)
          have HTQ := Aside0.mk (tsize_pos q)
          have HP2 := Aside0.mk (show (W1.cell? ad = some (.int .i64 p.f0) ∧ W1.cell? ⟨ad.block, ad.off + 1, none⟩ = some (.int .i64 p.f1) ∧ W1.cell? ⟨ad.block, ad.off + 2, none⟩ = some (.slice A2 p.f2.length c2)) from ⟨p0, p1, p2⟩)
          have HQ2 := Aside0.mk (show (W1.cell? ⟨ad.block, ad.off + 3, none⟩ = some (.int .i64 q.f0) ∧ W1.cell? ⟨ad.block, (ad.off + 3) + 1, none⟩ = some (.int .i64 q.f1) ∧ W1.cell? ⟨ad.block, (ad.off + 3) + 2, none⟩ = some (.slice A3 q.f2.length c3)) from ⟨q0, q1, q2⟩)
          have HLP := Aside0.mk hlp
          have HFP := Aside0.mk hFp
          have HLQ := Aside0.mk hlq
          have HFQ := Aside0.mk hFq
          have HPK := Aside0.mk hp
          have HQK := Aside0.mk hq
          have HLEN := Aside0.mk (lookT_len parts p out)
          have HPS := Aside0.mk (lookT_sizes parts 1000000 p out HSS.out (by have := HSZ.out; omega))
          clear p0 p1 p2 q0 q1 q2 hlp hFp hlq hFq hp hq hF2 hts hpq hlen
          rw [HE2.out]
          go_enter Try.func37, Try.ntmps37
          go_wp2_with (first
            | (go_at_call 25; (with_reducible refine (in_calls_n _ parts x Ap (some ad) cp c (Kd.C_below HPa.out HSB0.out) HPc.out (Kd.C_below HC0.out HSB0.out) HCc.out HPl.out HPs.out).mono ?_); rw [HB1.out]; rintro e w2 ⟨rfl, hb⟩; have HS2 := Aside0.mk (HS0.out.below hb); have HX2 := Aside0.mk (blk_below HX.out hb); have HSB2 := Aside0.mk HS2.out.2.2.2.2; have HSN2 := Aside0.mk HS2.out.1; clear hb k0 k1 k2 j0 j1 j2; obtain ⟨⟨k0, k1, k2⟩, j0, j1, j2⟩ := cells3 HX2.out; have z0 := (HSB2.out.cell (World.block_lt_of_cell? W1 _ HP2.out.1)).trans HP2.out.1; have z1 := (HSB2.out.cell (World.block_lt_of_cell? W1 _ HP2.out.2.1)).trans HP2.out.2.1; have z2 := (HSB2.out.cell (World.block_lt_of_cell? W1 _ HP2.out.2.2)).trans HP2.out.2.2)
            | (go_at_call 37; (with_reducible refine (IH.out p out A2 c2 Ao co _ (by have := HM.out; have := TS.out; have := HTQ.out; omega) HPK.out (by have := HSZ.out; have := TS.out; omega) HSS.out HFP.out HLP.out HSB2.out HSN2.out).mono ?_); rintro e w3 ⟨A4, c4, rfl, hq⟩; have HS3 := Aside0.mk (HS2.out.trans hq); have HX3 := Aside0.mk (TakS.blk HS3.out HX.out HNE.out); have HSB3 := Aside0.mk HS3.out.2.2.2.2; have HSN3 := Aside0.mk HS3.out.1; clear hq k0 k1 k2 j0 j1 j2 z0 z1 z2; obtain ⟨⟨k0, k1, k2⟩, j0, j1, j2⟩ := cells3 HX3.out; have z0 := (HSB3.out.cell (World.block_lt_of_cell? W1 _ HQ2.out.1)).trans HQ2.out.1; have z1 := (HSB3.out.cell (World.block_lt_of_cell? W1 _ HQ2.out.2.1)).trans HQ2.out.2.1; have z2 := (HSB3.out.cell (World.block_lt_of_cell? W1 _ HQ2.out.2.2)).trans HQ2.out.2.2)
            | (go_at_call 37; (with_reducible refine (IH.out q (lookT parts p out) A3 c3 A4 c4 _ (by have := HM.out; have := TS.out; have := HTP.out; omega) HQK.out (by have := HSZ.out; have := TS.out; have := HLEN.out; omega) HPS.out HFQ.out HLQ.out HSB3.out HSN3.out).mono ?_); rintro e w4 ⟨A5, c5, rfl, hq⟩; have HS4 := Aside0.mk (HS3.out.trans hq); clear hq))
          go_ret
          exact (HS4.out.head HBX.out).q
def pelicanref06_Lacks.f (l0 : List (S24)) (a1_0 : Int) (a1_1 : Int) (l1_2 : List (S24)) : Option ((List (S24))) :=
  if lsize l0 ≤ 1000000 ∧ tsize ⟨a1_0, a1_1, l1_2⟩ ≤ 1000000 then some (if mayL l0 = true ∧ mayT ⟨a1_0, a1_1, l1_2⟩ = true then lookT (partsOf l0) ⟨a1_0, a1_1, l1_2⟩ [] else []) else none
theorem lacking_n (W1 : World) (okX : Nat → Prop) (hok : ∀ k, okX k → k < W1.heap.size) (Ap : Option Addr) (cp : Nat) (parts : List S24) (HPa : Kd.C k24 W1 Ap parts.length parts) (HPc : parts.length ≤ cp) (HPl : parts.length ≤ 1000000) (HPs : ∀ z ∈ parts, tsize z ≤ 1000000) (a b : Int) (l : List S24) (A : Option Addr) (c : Nat) (W : World) (h1 : okT ⟨a, b, l⟩ = true) (h2 : tsize ⟨a, b, l⟩ ≤ 1000000) (h3 : Kd.F k24 W1 okX A l.length l) (h4 : l.length ≤ c) (h5 : Below W1.heap.size W1 W) :
    Calls Try.prog 37 #[.slice Ap parts.length cp, .agg #[.int .i64 a, .int .i64 b, .slice A l.length c], .slice none 0 0] W fun e W' => TakQ W1 W W' (fun k => okX k ∨ W1.heap.size ≤ k) (.slice none 0 0) (lookT parts ⟨a, b, l⟩ []) e :=
  lacking_calls W1 okX hok Ap cp parts ⟨HPa⟩ ⟨HPc⟩ ⟨HPl⟩ ⟨HPs⟩ _ ⟨a, b, l⟩ [] A c none 0 W (Nat.le_refl _) h1 (by simpa using h2) (by simp) h3 h4 h5 (Kd.N_nil _ _ _ _ _)
set_option maxHeartbeats 4000000 in
set_option maxRecDepth 100000 in
theorem pelicanref06_Lacks.calls (A0 : Option Addr) (c0 : Nat) (l0 : List (S24)) (a1_0 : Int) (a1_1 : Int) (P1_2_ : Nat → Prop) (A1_2 : Option Addr) (c1_2 : Nat) (l1_2 : List (S24)) (r : List (S24)) (w : World) (hr0 : Kd.C k24 w A0 l0.length l0) (hc0 : l0.length ≤ c0) (hs1_2 : Kd.V k24 24 w w.heap.size (fun k_ => P1_2_ k_) (.slice A1_2 l1_2.length c1_2) l1_2) (h : pelicanref06_Lacks.f l0 a1_0 a1_1 l1_2 = some r) :
    Calls Try.prog 17 #[.slice A0 l0.length c0, .agg #[.int .i64 a1_0, .int .i64 a1_1, .slice A1_2 l1_2.length c1_2]] w fun e w' => ∃ v0_ : Value, e = .returned (v0_) ∧ Kd.N k24 24 w' w.heap.size (fun k_ => (P1_2_ k_ ∨ w.heap.size ≤ k_)) v0_ r ∧ Below w.heap.size w w' := by
  unfold pelicanref06_Lacks.f at h
  split at h
  · rename_i hsz
    have HH := Aside0.mk (Option.some.inj h)
    have HS0 := Aside0.mk hsz.1
    have HS1 := Aside0.mk hsz.2
    have HR := Aside0.mk hr0
    have HC := Aside0.mk hc0
    have HV := Aside0.mk hs1_2
    have HT := Aside0.mk (Kd.V_reads' hs1_2)
    obtain ⟨q1, hq1⟩ := Ev.rounds (refmay_ev l0 hsz.1)
    obtain ⟨q2, hq2⟩ := Ev.rounds (ref_may_ev ⟨a1_0, a1_1, l1_2⟩ hsz.2)
    have HQ1 := Aside0.mk hq1
    have HQ2 := Aside0.mk (show pelicanref05_May.f q2 a1_0 a1_1 l1_2 = some (mayT ⟨a1_0, a1_1, l1_2⟩) from hq2)
    have HB := Aside0.mk (below_alloc (Below.refl w.heap.size w) (.cells #[.int .i64 a1_0, .int .i64 a1_1, .slice A1_2 l1_2.length c1_2] 24 (0, 0)))
    have BX := Aside0.mk (blk_new w (.cells #[.int .i64 a1_0, .int .i64 a1_1, .slice A1_2 l1_2.length c1_2] 24 (0, 0)))
    obtain ⟨⟨k0, k1, k2⟩, j0, j1, j2⟩ := cells3 BX.out
    clear h hsz hr0 hc0 hs1_2 hq1 hq2
    obtain ⟨b1, hb1⟩ : ∃ b, mayL l0 = b := ⟨_, rfl⟩
    obtain ⟨b2, hb2⟩ : ∃ b, mayT ⟨a1_0, a1_1, l1_2⟩ = b := ⟨_, rfl⟩
    rw [hb1] at HQ1
    rw [hb2] at HQ2
    by_cases hb : b1 = true ∧ b2 = true
    · obtain ⟨rfl, rfl⟩ := hb
      have HE := Aside0.mk (show lookT (partsOf l0) ⟨a1_0, a1_1, l1_2⟩ [] = r by rw [← HH.out, if_pos ⟨hb1, hb2⟩])
      have HOK := Aside0.mk (show okT ⟨a1_0, a1_1, l1_2⟩ = true by unfold mayT at hb2; simp only [Bool.and_eq_true] at hb2; exact hb2.1)
      have HPF := Aside0.mk (show pelicanref06_Parts.f l0 = some (partsOf l0) by unfold pelicanref06_Parts.f; rw [if_pos HS0.out, if_pos hb1])
      have HPL := Aside0.mk (show (partsOf l0).length ≤ 1000000 from Nat.le_trans (parts_len l0) HS0.out)
      have HPS := Aside0.mk (show ∀ z ∈ partsOf l0, tsize z ≤ 1000000 from parts_size (fun z hz => Nat.le_trans (lsize_mem l0 z hz) HS0.out))
      have HVF := Aside0.mk (Kd.F_bound (Kd.V_F HV.out))
      clear hb1 hb2
      rw [← HE.out]
      go_enter Try.func17, Try.ntmps17
      go_wp2_with (first
        | (go_at_call 18; (with_reducible refine (pelicanref06_May.calls q1 A0 c0 l0 true _ (Kd.C_below HR.out HB.out) HC.out HQ1.out).mono ?_); rintro e w1 ⟨rfl, hb⟩; have HB1 := Aside0.mk (below_step HB.out hb); have BX1 := Aside0.mk (blk_below BX.out hb); clear hb k0 k1 k2 j0 j1 j2; obtain ⟨⟨k0, k1, k2⟩, j0, j1, j2⟩ := cells3 BX1.out)
        | (go_at_call 36; (with_reducible refine (pelicanref05_May.calls q2 a1_0 a1_1 A1_2 c1_2 l1_2 true _ (Kd.C_below HT.out.2.2 HB1.out) HT.out.2.1 HQ2.out).mono ?_); rintro e w2 ⟨rfl, hb⟩; have HB2 := Aside0.mk (below_step HB1.out hb); have BX2 := Aside0.mk (blk_below BX1.out hb); clear hb k0 k1 k2 j0 j1 j2; obtain ⟨⟨k0, k1, k2⟩, j0, j1, j2⟩ := cells3 BX2.out))
      have HBd := Aside0.mk (below_drew HB2.out)
      have BXd := Aside0.mk (blk_drew BX2.out)
      have HVP := Aside0.mk (show Kd.V k24 24 w2.drew w2.drew.heap.size (fun k => k < w2.drew.heap.size) (.slice A0 l0.length c0) l0 from ⟨A0, c0, rfl, HC.out, Kd.C_F k24_heap (Kd.C_below HR.out HBd.out)⟩)
      clear k0 k1 k2 j0 j1 j2
      obtain ⟨⟨k0, k1, k2⟩, j0, j1, j2⟩ := cells3 BXd.out
      go_region_held3 (fun w' => w'.cell? ⟨w.heap.size, 0, none⟩ = some (.int .i64 a1_0) ∧ w'.cell? ⟨w.heap.size, 1, none⟩ = some (.int .i64 a1_1) ∧ w'.cell? ⟨w.heap.size, 2, none⟩ = some (.slice A1_2 l1_2.length c1_2)) (first | exact ⟨k0, k1, k2⟩ | go_keep)
        (first
          | (go_at_call 15; (with_reducible refine (pelicanref06_Parts.calls (fun k => k < w2.drew.heap.size) A0 c0 l0 _ _ HVP.out HPF.out).mono ?_); rintro e w3 ⟨vp, rfl, hN, hb⟩; have HB3 := Aside0.mk (below_step HBd.out hb); have BX3 := Aside0.mk (blk_below BXd.out hb); obtain ⟨Ap, cp, ev, hlp, hCp⟩ := Kd.N_reads hN; subst ev; have HPA := Aside0.mk hCp; have HPC := Aside0.mk hlp; have HF3 := Aside0.mk (Kd.F_below HVF.out HB3.out); have HZ3 := Aside0.mk HB3.out.size; clear hb hN hlp hCp k0 k1 k2 j0 j1 j2; obtain ⟨⟨k0, k1, k2⟩, j0, j1, j2⟩ := cells3 BX3.out)
          | (go_at_call 37; (with_reducible refine (lacking_n w3 (fun k => P1_2_ k ∧ k < w.heap.size) (fun k hk => Nat.lt_of_lt_of_le hk.2 HZ3.out) Ap cp (partsOf l0) HPA.out HPC.out HPL.out HPS.out a1_0 a1_1 l1_2 A1_2 c1_2 w3 HOK.out HS1.out HF3.out HT.out.2.1 (Below.refl _ _)).mono ?_); rintro e w4 ⟨A5, c5, rfl, hq⟩; have HN4 := Aside0.mk hq.1; have HB4 := Aside0.mk hq.2.2.2.2; have BX4 := Aside0.mk (blk_below BX3.out hq.2.2.2.2); clear hq k0 k1 k2 j0 j1 j2; obtain ⟨⟨k0, k1, k2⟩, j0, j1, j2⟩ := cells3 BX4.out))
      go_wp2
      go_ret
      exact ⟨_, rfl, Kd.N_lower (Kd.N_mono HN4.out (fun k hk => hk.imp (fun h => h.1) (fun h => Nat.le_trans HZ3.out h))) HZ3.out, below_step HB3.out HB4.out⟩
    · have HE := Aside0.mk (show ([] : List S24) = r by rw [← HH.out, if_neg (by rw [hb1, hb2]; exact hb)])
      clear hb1 hb2
      rw [← HE.out]
      go_enter Try.func17, Try.ntmps17
      cases b1 with
      | false =>
        go_wp2_with (first
          | (go_at_call 18; (with_reducible refine (pelicanref06_May.calls q1 A0 c0 l0 false _ (Kd.C_below HR.out HB.out) HC.out HQ1.out).mono ?_); rintro e w1 ⟨rfl, hb⟩; have HB1 := Aside0.mk (below_step HB.out hb); have BX1 := Aside0.mk (blk_below BX.out hb); clear hb k0 k1 k2 j0 j1 j2; obtain ⟨⟨k0, k1, k2⟩, j0, j1, j2⟩ := cells3 BX1.out)
          | (go_at_call 36; (with_reducible refine (pelicanref05_May.calls q2 a1_0 a1_1 A1_2 c1_2 l1_2 b2 _ (Kd.C_below HT.out.2.2 HB1.out) HT.out.2.1 HQ2.out).mono ?_); rintro e w2 ⟨rfl, hb⟩; have HB2 := Aside0.mk (below_step HB1.out hb); clear hb k0 k1 k2 j0 j1 j2))
        go_ret
        exact ⟨_, rfl, Kd.N_nil _ _ _ _ _, HB2.out⟩
      | true =>
        obtain rfl : b2 = false := by cases b2 with
          | false => rfl
          | true => exact absurd ⟨rfl, rfl⟩ hb
        clear hb
        go_wp2_with (first
          | (go_at_call 18; (with_reducible refine (pelicanref06_May.calls q1 A0 c0 l0 true _ (Kd.C_below HR.out HB.out) HC.out HQ1.out).mono ?_); rintro e w1 ⟨rfl, hb⟩; have HB1 := Aside0.mk (below_step HB.out hb); have BX1 := Aside0.mk (blk_below BX.out hb); clear hb k0 k1 k2 j0 j1 j2; obtain ⟨⟨k0, k1, k2⟩, j0, j1, j2⟩ := cells3 BX1.out)
          | (go_at_call 36; (with_reducible refine (pelicanref05_May.calls q2 a1_0 a1_1 A1_2 c1_2 l1_2 false _ (Kd.C_below HT.out.2.2 HB1.out) HT.out.2.1 HQ2.out).mono ?_); rintro e w2 ⟨rfl, hb⟩; have HB2 := Aside0.mk (below_step HB1.out hb); clear hb k0 k1 k2 j0 j1 j2))
        go_ret
        exact ⟨_, rfl, Kd.N_nil _ _ _ _ _, HB2.out⟩
  · cases h
end Go.Proofs.Ytfonjmggalkbjaa.P
