/- By hand: slices.IndexFunc and ContainsFunc at two closures, know.has, know.May, know.Same. -/
import Derived.Test.YtfonjmggalkbjaaHWalk
import Derived.Test.YtfonjmggalkbjaaHSame
namespace Go.Proofs.Ytfonjmggalkbjaa.P
open Go.RowKit Go.Proofs.YtfonjmggalkbjaaW.PrintWords Go.Proofs.YtfonjmggalkbjaaW.PrintLast Go.Proofs.YtfonjmggalkbjaaW.PrintMore
set_option linter.unusedVariables false
set_option linter.unusedSimpArgs false
theorem cells3 {w : World} {g : Nat} {t : TypeId} {x y z : Value} (h : w.heap[g]? = some (.cells #[x, y, z] t (0, 0))) : (w.cell? ⟨g, 0, none⟩ = some x ∧ w.cell? ⟨g, 1, none⟩ = some y ∧ w.cell? ⟨g, 2, none⟩ = some z) ∧ (w.frozen? ⟨g, 0, none⟩ = false ∧ w.frozen? ⟨g, 1, none⟩ = false ∧ w.frozen? ⟨g, 2, none⟩ = false) :=
  ⟨⟨blk_cell h 0, blk_cell h 1, blk_cell h 2⟩, blk_frozen h 0, blk_frozen h 1, blk_frozen h 2⟩
theorem eta24 (x : S24) : (⟨x.f0, x.f1, x.f2⟩ : S24) = x := by cases x; rfl
theorem same_calls (x y : S24) (A A' : Option Addr) (c c' : Nat) (W : World) (h : Kd.C k24 W A x.f2.length x.f2) (h' : Kd.C k24 W A' y.f2.length y.f2) :
    Calls Try.prog 42 #[.agg #[.int .i64 x.f0, .int .i64 x.f1, .slice A x.f2.length c], .agg #[.int .i64 y.f0, .int .i64 y.f1, .slice A' y.f2.length c']] W fun e w' => e = .returned (.bool (sameT x y)) ∧ Below W.heap.size W w' := same_in _ x y A A' c c' W (Nat.le_refl _) h h'
def nmay (z : S24) : Bool := !(mayB z && decide (foldT step_Size 0 z 1 ≤ 60))
def idxF (p : S24 → Bool) : List S24 → Int
  | [] => -1
  | x :: l => if p x = true then 0 else if idxF p l = -1 then -1 else idxF p l + 1
theorem idxF_ge (p : S24 → Bool) : ∀ l, -1 ≤ idxF p l ∧ idxF p l ≤ l.length
  | [] => by simp [idxF]
  | x :: l => by
    have := idxF_ge p l
    rw [idxF, List.length_cons]
    split
    · omega
    · split <;> omega
theorem idxF_any (p : S24 → Bool) : ∀ l, decide (0 ≤ idxF p l) = l.any p
  | [] => by simp [idxF]
  | x :: l => by
    have h1 := idxF_any p l
    have h2 := idxF_ge p l
    rw [idxF, List.any_cons]
    by_cases h : p x = true
    · rw [if_pos h, h]; rfl
    · rw [if_neg h, Bool.eq_false_iff.2 h, Bool.false_or, ← h1]
      split
      · rename_i e; simp [e]
      · rw [decide_eq_decide]; omega
theorem idxF_skip (p : S24 → Bool) : ∀ (l k : List S24), (∀ x ∈ l, p x = false) → idxF p (l ++ k) = if idxF p k = -1 then -1 else idxF p k + l.length
  | [], k, _ => by first | (simp; done) | (simp; intro h; exact h.symm)
  | x :: l, k, h => by
    have h1 := idxF_skip p l k fun y hy => h y (by simp [hy])
    have h2 := idxF_ge p k
    rw [List.cons_append, idxF, if_neg (by rw [h x (by simp)]; decide), h1, List.length_cons]
    by_cases e : idxF p k = -1
    · rw [if_pos e, if_pos e, if_pos rfl]
    · rw [if_neg e, if_neg e, if_neg (by omega)]; omega
theorem idxF_at (p : S24 → Bool) {l : List S24} {i : Nat} (hi : i < l.length) (h0 : ∀ x ∈ l.take i, p x = false) (h1 : p (rd_T24 l i) = true) : idxF p l = i := by
  have e : l = l.take i ++ (rd_T24 l i :: l.drop (i + 1)) := by
    rw [rdT_get l hi, ← List.drop_eq_getElem_cons hi, List.take_append_drop]
  rw [e, idxF_skip p _ _ h0, idxF, if_pos h1, List.length_take]
  simp
  omega
theorem idxF_none (p : S24 → Bool) {l : List S24} (h : ∀ x ∈ l, p x = false) : idxF p l = -1 := by
  have := idxF_skip p l [] h
  simpa [idxF] using this
theorem take_all {p : S24 → Bool} {l : List S24} {i : Nat} (hi : i < l.length) (h0 : ∀ x ∈ l.take i, p x = false) (h1 : p (rd_T24 l i) = false) : ∀ x ∈ l.take (i + 1), p x = false := by
  intro x hx
  rw [rdT_take l hi] at hx
  rcases List.mem_append.1 hx with hx | hx
  · exact h0 x hx
  · rw [List.mem_singleton.1 hx]; exact h1
set_option maxHeartbeats 1000000 in
set_option maxRecDepth 100000 in
theorem each_has (t : S24) (At : Option Addr) (ct : Nat) (Bt : Nat) (x : S24) (A : Option Addr) (c : Nat) (W : World) (HP0 : Aside0 (W.heap[Bt]? = some (.cells #[.int .i64 t.f0, .int .i64 t.f1, .slice At t.f2.length ct] 24 (0, 0)))) (HP1 : Aside0 (Kd.C k24 W At t.f2.length t.f2)) (HC : Aside0 (Kd.C k24 W A x.f2.length x.f2)) (HL : Aside0 (x.f2.length ≤ c)) :
    Calls Try.prog 48 #[.agg #[.int .i64 x.f0, .int .i64 x.f1, .slice A x.f2.length c], .pointer (some ⟨Bt, 0, none⟩)] W fun e W' => e = .returned (.bool ((fun z => sameT z t) x)) ∧ Below W.heap.size W W' := by
  have B0 := blk_new W (.cells #[.int .i64 x.f0, .int .i64 x.f1, .slice A x.f2.length c] 24 (0, 0))
  have B1 := blk_alloc HP0.out (.cells #[.int .i64 x.f0, .int .i64 x.f1, .slice A x.f2.length c] 24 (0, 0))
  have HB := Aside0.mk (below_alloc (Below.refl W.heap.size W) (.cells #[.int .i64 x.f0, .int .i64 x.f1, .slice A x.f2.length c] 24 (0, 0)))
  obtain ⟨⟨k0, k1, k2⟩, _⟩ := cells3 B0
  obtain ⟨⟨k3, k4, k5⟩, _⟩ := cells3 B1
  clear B0 B1
  go_enter Try.func48, Try.ntmps48
  go_wp2_with (first | (go_at_call 42; (with_reducible refine (same_calls x t A At c ct _ (Kd.C_below HC.out HB.out) (Kd.C_below HP1.out HB.out)).mono ?_); rintro e w1 ⟨rfl, hb⟩; have HB := Aside0.mk (below_step HB.out hb); clear hb))
  go_ret
  exact ⟨rfl, HB.out⟩
set_option maxHeartbeats 1000000 in
set_option maxRecDepth 100000 in
theorem index_has (t : S24) (At : Option Addr) (ct : Nat) (Bt : Nat) (l : List S24) (A : Option Addr) (c : Nat) (W : World) (HP0 : Aside0 (W.heap[Bt]? = some (.cells #[.int .i64 t.f0, .int .i64 t.f1, .slice At t.f2.length ct] 24 (0, 0)))) (HP1 : Aside0 (Kd.C k24 W At t.f2.length t.f2)) (HC : Aside0 (Kd.C k24 W A l.length l)) :
    Calls Try.prog 52 #[.slice A l.length c, .func (.func 48) #[] #[.pointer (some ⟨Bt, 0, none⟩)]] W fun e w' => e = .returned (.int .i64 (idxF (fun z => sameT z t) l)) ∧ Below W.heap.size W w' := by
  have hml : l.length ≤ 9223372036854775807 := HC.out.2.1
  have HB := Aside0.mk (Below.refl W.heap.size W)
  go_enter Try.func52, Try.ntmps52
  go_wp2
  go_loopw [8] (fun v8 wr => ∃ i : Nat, i ≤ l.length ∧ v8 = .int .i64 i ∧ Aside0 (∀ x ∈ l.take i, (fun z => sameT z t) x = false) ∧ Aside0 (Below W.heap.size W wr)) (fun v8 _ => l.length - (intOf v8).toNat)
  case atStart => exact ⟨0, by omega, rfl, ⟨by simp⟩, HB⟩
  case round =>
    clear HB
    obtain ⟨i, hi, rfl, HS, HB⟩ := hrel
    by_cases hlt : i < l.length
    · obtain ⟨ad, A2, c2, e0, x0, x1, x2, hl2, hC2⟩ := at_T24 HC.out (i : Int) (by omega) (by omega)
      subst e0
      replace x0 := (HB.out.cell (World.block_lt_of_cell? W _ x0)).trans x0
      replace x1 := (HB.out.cell (World.block_lt_of_cell? W _ x1)).trans x1
      replace x2 := (HB.out.cell (World.block_lt_of_cell? W _ x2)).trans x2
      rw [Int.toNat_natCast] at x0 x1 x2
      have HA := Aside0.mk (fun h => idxF_at (fun z => sameT z t) hlt HS.out h)
      have HN := Aside0.mk (fun h => take_all (p := (fun z => sameT z t)) hlt HS.out h)
      obtain ⟨y, hy⟩ : ∃ y, y = rd_T24 l (i : Int) := ⟨_, rfl⟩
      rw [← hy] at x0 x1 x2 hl2 hC2 HA HN
      have HC2 := Aside0.mk hC2
      have HL2 := Aside0.mk hl2
      clear hy hC2 hl2
      cases hs : (fun z => sameT z t) y with
      | true =>
        have HT := Aside0.mk hs
        have HI := Aside0.mk (HA.out hs)
        clear hs
        go_wp2_with (first | (go_at_call 48; (with_reducible refine (each_has t At ct Bt y A2 c2 _ ⟨blk_below HP0.out HB.out⟩ ⟨Kd.C_below HP1.out HB.out⟩ ⟨Kd.C_below HC2.out HB.out⟩ HL2).mono ?_); rw [HT.out]; rintro e w1 ⟨rfl, hb⟩; have HB := Aside0.mk (below_step HB.out hb); clear hb))
        go_ret
        exact ⟨by rw [HI.out]; rfl, HB.out⟩
      | false =>
        have HT := Aside0.mk hs
        have HI := Aside0.mk (HN.out hs)
        clear hs
        go_wp2_with (first | (go_at_call 48; (with_reducible refine (each_has t At ct Bt y A2 c2 _ ⟨blk_below HP0.out HB.out⟩ ⟨Kd.C_below HP1.out HB.out⟩ ⟨Kd.C_below HC2.out HB.out⟩ HL2).mono ?_); rw [HT.out]; rintro e w1 ⟨rfl, hb⟩; have HB := Aside0.mk (below_step HB.out hb); clear hb))
        go_roundw
        case rel => exact ⟨i + 1, by omega, by go_num, HI, HB⟩
        case measure => simp [intOf]; omega
    · obtain rfl : i = l.length := by omega
      go_wp2
      go_ret
      refine ⟨?_, HB.out⟩
      have := HS.out
      rw [List.take_length] at this
      rw [idxF_none _ this]
      rfl
set_option maxHeartbeats 1000000 in
set_option maxRecDepth 100000 in
theorem contains_has (t : S24) (At : Option Addr) (ct : Nat) (Bt : Nat) (l : List S24) (A : Option Addr) (c : Nat) (W : World) (HP0 : Aside0 (W.heap[Bt]? = some (.cells #[.int .i64 t.f0, .int .i64 t.f1, .slice At t.f2.length ct] 24 (0, 0)))) (HP1 : Aside0 (Kd.C k24 W At t.f2.length t.f2)) (HC : Aside0 (Kd.C k24 W A l.length l)) :
    Calls Try.prog 39 #[.slice A l.length c, .func (.func 48) #[] #[.pointer (some ⟨Bt, 0, none⟩)]] W fun e w' => e = .returned (.bool (l.any (fun z => sameT z t))) ∧ Below W.heap.size W w' := by
  obtain ⟨r, hr⟩ : ∃ r, r = idxF (fun z => sameT z t) l := ⟨_, rfl⟩
  have HR := Aside0.mk hr
  have HD := Aside0.mk (show decide (0 ≤ r) = l.any (fun z => sameT z t) by rw [hr]; exact idxF_any _ l)
  clear hr
  rw [← HD.out]
  go_enter Try.func39, Try.ntmps39
  go_wp2_with (first | (go_at_call 52; (with_reducible refine (index_has t At ct Bt l A c _ HP0 HP1 HC).mono ?_); rw [← HR.out]; rintro e w1 ⟨rfl, hb⟩; have HB := Aside0.mk hb; clear hb))
  go_ret
  exact ⟨rfl, HB.out⟩
set_option maxHeartbeats 1000000 in
set_option maxRecDepth 100000 in
theorem each_may  (x : S24) (A : Option Addr) (c : Nat) (W : World) (HC : Aside0 (Kd.C k24 W A x.f2.length x.f2)) (HL : Aside0 (x.f2.length ≤ c)) :
    Calls Try.prog 40 #[.agg #[.int .i64 x.f0, .int .i64 x.f1, .slice A x.f2.length c]] W fun e W' => e = .returned (.bool (nmay x)) ∧ Below W.heap.size W W' := by
  have B0 := blk_new W (.cells #[.int .i64 x.f0, .int .i64 x.f1, .slice A x.f2.length c] 24 (0, 0))
  have HB := Aside0.mk (below_alloc (Below.refl W.heap.size W) (.cells #[.int .i64 x.f0, .int .i64 x.f1, .slice A x.f2.length c] 24 (0, 0)))
  obtain ⟨⟨k0, k1, k2⟩, _⟩ := cells3 B0
  clear B0
  obtain ⟨b, hb⟩ : ∃ b, b = (mayB x && decide (foldT step_Size 0 x 1 ≤ 60)) := ⟨_, rfl⟩
  have HM := Aside0.mk (show term_May.f x.f0 x.f1 x.f2 = some b by rw [hb]; unfold term_May.f; rw [eta24])
  have HE := Aside0.mk hb
  show Calls _ _ _ W fun e W' => e = .returned (.bool (!(mayB x && decide (foldT step_Size 0 x 1 ≤ 60)))) ∧ Below W.heap.size W W'
  rw [← hb]
  clear hb
  go_enter Try.func40, Try.ntmps40
  go_wp2_with (first | (go_at_call 23; (with_reducible refine (term_May.calls x.f0 x.f1 A c x.f2 b _ (Kd.C_below HC.out HB.out) HL.out HM.out).mono ?_); rintro e w1 ⟨rfl, hb⟩; have HB := Aside0.mk (below_step HB.out hb); clear hb))
  go_ret
  exact ⟨rfl, HB.out⟩
set_option maxHeartbeats 1000000 in
set_option maxRecDepth 100000 in
theorem index_may  (l : List S24) (A : Option Addr) (c : Nat) (W : World) (HC : Aside0 (Kd.C k24 W A l.length l)) :
    Calls Try.prog 52 #[.slice A l.length c, .func (.func 40) #[] #[]] W fun e w' => e = .returned (.int .i64 (idxF nmay l)) ∧ Below W.heap.size W w' := by
  have hml : l.length ≤ 9223372036854775807 := HC.out.2.1
  have HB := Aside0.mk (Below.refl W.heap.size W)
  go_enter Try.func52, Try.ntmps52
  go_wp2
  go_loopw [8] (fun v8 wr => ∃ i : Nat, i ≤ l.length ∧ v8 = .int .i64 i ∧ Aside0 (∀ x ∈ l.take i, nmay x = false) ∧ Aside0 (Below W.heap.size W wr)) (fun v8 _ => l.length - (intOf v8).toNat)
  case atStart => exact ⟨0, by omega, rfl, ⟨by simp⟩, HB⟩
  case round =>
    clear HB
    obtain ⟨i, hi, rfl, HS, HB⟩ := hrel
    by_cases hlt : i < l.length
    · obtain ⟨ad, A2, c2, e0, x0, x1, x2, hl2, hC2⟩ := at_T24 HC.out (i : Int) (by omega) (by omega)
      subst e0
      replace x0 := (HB.out.cell (World.block_lt_of_cell? W _ x0)).trans x0
      replace x1 := (HB.out.cell (World.block_lt_of_cell? W _ x1)).trans x1
      replace x2 := (HB.out.cell (World.block_lt_of_cell? W _ x2)).trans x2
      rw [Int.toNat_natCast] at x0 x1 x2
      have HA := Aside0.mk (fun h => idxF_at nmay hlt HS.out h)
      have HN := Aside0.mk (fun h => take_all (p := nmay) hlt HS.out h)
      obtain ⟨y, hy⟩ : ∃ y, y = rd_T24 l (i : Int) := ⟨_, rfl⟩
      rw [← hy] at x0 x1 x2 hl2 hC2 HA HN
      have HC2 := Aside0.mk hC2
      have HL2 := Aside0.mk hl2
      clear hy hC2 hl2
      cases hs : nmay y with
      | true =>
        have HT := Aside0.mk hs
        have HI := Aside0.mk (HA.out hs)
        clear hs
        go_wp2_with (first | (go_at_call 40; (with_reducible refine (each_may y A2 c2 _  ⟨Kd.C_below HC2.out HB.out⟩ HL2).mono ?_); rw [HT.out]; rintro e w1 ⟨rfl, hb⟩; have HB := Aside0.mk (below_step HB.out hb); clear hb))
        go_ret
        exact ⟨by rw [HI.out]; rfl, HB.out⟩
      | false =>
        have HT := Aside0.mk hs
        have HI := Aside0.mk (HN.out hs)
        clear hs
        go_wp2_with (first | (go_at_call 40; (with_reducible refine (each_may y A2 c2 _  ⟨Kd.C_below HC2.out HB.out⟩ HL2).mono ?_); rw [HT.out]; rintro e w1 ⟨rfl, hb⟩; have HB := Aside0.mk (below_step HB.out hb); clear hb))
        go_roundw
        case rel => exact ⟨i + 1, by omega, by go_num, HI, HB⟩
        case measure => simp [intOf]; omega
    · obtain rfl : i = l.length := by omega
      go_wp2
      go_ret
      refine ⟨?_, HB.out⟩
      have := HS.out
      rw [List.take_length] at this
      rw [idxF_none _ this]
      rfl
set_option maxHeartbeats 1000000 in
set_option maxRecDepth 100000 in
theorem contains_may  (l : List S24) (A : Option Addr) (c : Nat) (W : World) (HC : Aside0 (Kd.C k24 W A l.length l)) :
    Calls Try.prog 39 #[.slice A l.length c, .func (.func 40) #[] #[]] W fun e w' => e = .returned (.bool (l.any nmay)) ∧ Below W.heap.size W w' := by
  obtain ⟨r, hr⟩ : ∃ r, r = idxF nmay l := ⟨_, rfl⟩
  have HR := Aside0.mk hr
  have HD := Aside0.mk (show decide (0 ≤ r) = l.any nmay by rw [hr]; exact idxF_any _ l)
  clear hr
  rw [← HD.out]
  go_enter Try.func39, Try.ntmps39
  go_wp2_with (first | (go_at_call 52; (with_reducible refine (index_may l A c _  HC).mono ?_); rw [← HR.out]; rintro e w1 ⟨rfl, hb⟩; have HB := Aside0.mk hb; clear hb))
  go_ret
  exact ⟨rfl, HB.out⟩
def know_has.f (l0 : List (S24)) (a1_0 : Int) (a1_1 : Int) (l1_2 : List (S24)) : Option (Bool) := some (l0.any fun z => sameT z ⟨a1_0, a1_1, l1_2⟩)
set_option maxHeartbeats 1000000 in
set_option maxRecDepth 100000 in
theorem know_has.calls (A0 : Option Addr) (c0 : Nat) (l0 : List (S24)) (a1_0 : Int) (a1_1 : Int) (A1_2 : Option Addr) (c1_2 : Nat) (l1_2 : List (S24)) (r : Bool) (w : World) (hr0 : Kd.C k24 w A0 l0.length l0) (hc0 : l0.length ≤ c0) (hr1_2 : Kd.C k24 w A1_2 l1_2.length l1_2) (hc1_2 : l1_2.length ≤ c1_2) (h : know_has.f l0 a1_0 a1_1 l1_2 = some r) :
    Calls Try.prog 32 #[.slice A0 l0.length c0, .agg #[.int .i64 a1_0, .int .i64 a1_1, .slice A1_2 l1_2.length c1_2]] w fun e w' => e = .returned (.bool r) ∧ Below w.heap.size w w' := by
  have HR := Aside0.mk (Option.some.inj h)
  have HB := Aside0.mk (below_alloc (Below.refl w.heap.size w) (.cells #[.int .i64 a1_0, .int .i64 a1_1, .slice A1_2 l1_2.length c1_2] 24 (0, 0)))
  have B0 := Aside0.mk (blk_new w (.cells #[.int .i64 a1_0, .int .i64 a1_1, .slice A1_2 l1_2.length c1_2] 24 (0, 0)))
  have H0 := Aside0.mk hr0
  have H1 := Aside0.mk hr1_2
  clear hr0 hr1_2 hc0 hc1_2 h
  go_enter Try.func32, Try.ntmps32
  go_wp2_with (first | (go_at_call 39; refine (contains_has ⟨a1_0, a1_1, l1_2⟩ A1_2 c1_2 w.heap.size l0 A0 c0 _ ⟨B0.out⟩ ⟨Kd.C_below H1.out HB.out⟩ ⟨Kd.C_below H0.out HB.out⟩).mono ?_; rw [HR.out]; rintro e w1 ⟨rfl, hb⟩; have HB := Aside0.mk (below_step HB.out hb); clear hb))
  go_ret
  exact ⟨rfl, HB.out⟩
def mayL (l : List S24) : Bool := decide (l.length ≤ 40) && !(l.any nmay)
def know_May.f (l0 : List (S24)) : Option (Bool) := some (mayL l0)
set_option maxHeartbeats 1000000 in
set_option maxRecDepth 100000 in
theorem know_May.calls (A0 : Option Addr) (c0 : Nat) (l0 : List (S24)) (r : Bool) (w : World) (hr0 : Kd.C k24 w A0 l0.length l0) (hc0 : l0.length ≤ c0) (h : know_May.f l0 = some r) :
    Calls Try.prog 20 #[.slice A0 l0.length c0] w fun e w' => e = .returned (.bool r) ∧ Below w.heap.size w w' := by
  have hr := Option.some.inj h
  have H0 := Aside0.mk hr0
  have HR := Aside0.mk hr
  have HB := Aside0.mk (Below.refl w.heap.size w)
  clear hr0 hc0 h
  obtain ⟨b, hb⟩ : ∃ b, b = (l0.any nmay) := ⟨_, rfl⟩
  unfold mayL at hr
  rw [← hb] at hr
  have HE := Aside0.mk hb
  clear hb
  by_cases h40 : l0.length ≤ 40
  · have e1 : decide ((l0.length : Int) ≤ 40) = true := decide_eq_true (by omega)
    rw [decide_eq_true h40, Bool.true_and] at hr
    subst hr
    clear HR h40
    go_enter Try.func20, Try.ntmps20
    go_wp2_with (first | (go_at_call 39; refine (contains_may l0 A0 c0 _ ⟨H0.out⟩).mono ?_; rw [← HE.out]; rintro e w1 ⟨rfl, hb⟩; have HB := Aside0.mk (below_step HB.out hb); clear hb))
    go_ret
    exact ⟨rfl, HB.out⟩
  · have e1 : decide ((l0.length : Int) ≤ 40) = false := decide_eq_false (by omega)
    rw [decide_eq_false h40, Bool.false_and] at hr
    subst hr
    clear HR h40
    go_enter Try.func20, Try.ntmps20
    go_wp2
    go_ret
    exact ⟨rfl, HB.out⟩
theorem lsize_all (l : List S24) : ∀ x ∈ l, tsize x ≤ lsize l := lsize_mem l
def know_Same.f (l0 : List (S24)) (l1 : List (S24)) : Option (Bool) := some (sameLs l0 l1)
set_option maxHeartbeats 1000000 in
set_option maxRecDepth 100000 in
theorem know_Same.calls (A0 : Option Addr) (c0 : Nat) (l0 : List (S24)) (A1 : Option Addr) (c1 : Nat) (l1 : List (S24)) (r : Bool) (w : World) (hr0 : Kd.C k24 w A0 l0.length l0) (hc0 : l0.length ≤ c0) (hr1 : Kd.C k24 w A1 l1.length l1) (hc1 : l1.length ≤ c1) (h : know_Same.f l0 l1 = some r) :
    Calls Try.prog 22 #[.slice A0 l0.length c0, .slice A1 l1.length c1] w fun e w' => e = .returned (.bool r) ∧ Below w.heap.size w w' := by
  have HR := Aside0.mk (Option.some.inj h)
  have H0 := Aside0.mk hr0
  have H1 := Aside0.mk hr1
  clear hr0 hr1 hc0 hc1 h
  go_enter Try.func22, Try.ntmps22
  go_wp2_with (first | (go_at_call 41; refine (equalFunc_calls (lsize l0) ⟨same_in _⟩ l0 l1 A0 A1 c0 c1 _ ⟨lsize_all l0⟩ H0 H1).mono ?_; rw [HR.out]; rintro e w1 ⟨rfl, hb⟩; have HB := Aside0.mk hb; clear hb))
  go_ret
  exact ⟨rfl, HB.out⟩
end Go.Proofs.Ytfonjmggalkbjaa.P
