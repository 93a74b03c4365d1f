/- By hand: term.Same (it calls itself through slices.EqualFunc). -/
import Derived.Test.YtfonjmggalkbjaaHTree
namespace Go.Proofs.Ytfonjmggalkbjaa.P
open Go.RowKit Go.Proofs.YtfonjmggalkbjaaW.PrintWords Go.Proofs.YtfonjmggalkbjaaW.PrintLast Go.Proofs.YtfonjmggalkbjaaW.PrintMore
set_option linter.unusedVariables false
set_option linter.unusedSimpArgs false
mutual
def sameT (x y : S24) : Bool := match x, y with
  | ⟨a, b, l⟩, ⟨a', b', l'⟩ => a == a' && (b == b' && sameLs l l')
def sameLs (l k : List S24) : Bool := match l, k with
  | [], [] => true
  | x :: l, y :: k => sameT x y && sameLs l k
  | _, _ => false
end
theorem sameT_eq (x y : S24) : sameT x y = (x.f0 == y.f0 && (x.f1 == y.f1 && sameLs x.f2 y.f2)) := by cases x; cases y; rw [sameT]
theorem sameLs_len : ∀ {l k : List S24}, l.length ≠ k.length → sameLs l k = false
  | [], [], h => absurd rfl h
  | [], _ :: _, _ => by simp [sameLs]
  | _ :: _, [], _ => by simp [sameLs]
  | x :: l, y :: k, h => by
    rw [sameLs, sameLs_len (l := l) (k := k) (by simpa using h)]
    simp
theorem sameLs_append : ∀ {l1 k1 : List S24} (l2 k2 : List S24), l1.length = k1.length → sameLs (l1 ++ l2) (k1 ++ k2) = (sameLs l1 k1 && sameLs l2 k2)
  | [], [], l2, k2, _ => by simp [sameLs]
  | [], _ :: _, _, _, h => by simp at h
  | _ :: _, [], _, _, h => by simp at h
  | x :: l, y :: k, l2, k2, h => by
    simp only [List.cons_append, sameLs]
    rw [sameLs_append l2 k2 (by simpa using h), Bool.and_assoc]
theorem split_at (l : List S24) {i : Nat} (h : i < l.length) : l = l.take i ++ (rd_T24 l i :: l.drop (i + 1)) := by
  rw [rdT_get l h, ← List.drop_eq_getElem_cons h, List.take_append_drop]
theorem same_at {l k : List S24} {i : Nat} (h1 : i < l.length) (h2 : i < k.length) : sameLs l k = (sameLs (l.take i) (k.take i) && (sameT (rd_T24 l i) (rd_T24 k i) && sameLs (l.drop (i + 1)) (k.drop (i + 1)))) := by
  have e1 := split_at l h1
  have e2 := split_at k h2
  have := sameLs_append (l1 := l.take i) (k1 := k.take i) (rd_T24 l i :: l.drop (i + 1)) (rd_T24 k i :: k.drop (i + 1)) (by rw [List.length_take, List.length_take]; omega)
  rw [← e1, ← e2] at this
  rw [this, sameLs]
theorem same_snoc {l k : List S24} {i : Nat} (h1 : i < l.length) (h2 : i < k.length) : sameLs (l.take (i + 1)) (k.take (i + 1)) = (sameLs (l.take i) (k.take i) && sameT (rd_T24 l i) (rd_T24 k i)) := by
  rw [rdT_take l h1, rdT_take k h2, sameLs_append _ _ (by rw [List.length_take, List.length_take]; omega)]
  simp [sameLs]
/-- What term.Same tells of terms no greater than m. -/
def SameAt (m : Nat) : Prop := ∀ (x y : S24) (A A' : Option Addr) (c c' : Nat) (W : World), tsize x ≤ m → Kd.C k24 W A x.f2.length x.f2 → Kd.C k24 W A' y.f2.length y.f2 →
  Calls Try.prog 42 #[.agg #[.int .i64 x.f0, .int .i64 x.f1, .slice A x.f2.length c], .agg #[.int .i64 y.f0, .int .i64 y.f1, .slice A' y.f2.length c']] W fun e w' => e = .returned (.bool (sameT x y)) ∧ Below W.heap.size W w'
set_option maxHeartbeats 1000000 in
set_option maxRecDepth 100000 in
theorem equalFunc_calls (m : Nat) (ih : Aside0 (SameAt m)) (l k : List S24) (A A' : Option Addr) (c c' : Nat) (W : World) (hm : Aside0 (∀ x ∈ l, tsize x ≤ m)) (HC : Aside0 (Kd.C k24 W A l.length l)) (HC' : Aside0 (Kd.C k24 W A' k.length k)) :
    Calls Try.prog 41 #[.slice A l.length c, .slice A' k.length c', .func (.func 42) #[] #[]] W fun e w' => e = .returned (.bool (sameLs l k)) ∧ Below W.heap.size W w' := by
  have hml : l.length ≤ 9223372036854775807 := HC.out.2.1
  by_cases hlk : l.length = k.length
  · have HB := Aside0.mk (Below.refl W.heap.size W)
    have e1 : ((l.length : Int) != (k.length : Int)) = false := by simp [hlk]
    have HLK := Aside0.mk hlk
    clear hlk
    go_enter Try.func41, Try.ntmps41
    go_wp2
    go_loopw [17] (fun v17 wr => ∃ i : Nat, i ≤ l.length ∧ v17 = .int .i64 i ∧ Aside0 (sameLs (l.take i) (k.take i) = true) ∧ Aside0 (Below W.heap.size W wr)) (fun v17 _ => l.length - (intOf v17).toNat)
    case atStart => exact ⟨0, by omega, rfl, ⟨by simp [sameLs]⟩, HB⟩
    case round =>
      clear HB
      obtain ⟨i, hi, rfl, HS, HB⟩ := hrel
      by_cases hlt : i < l.length
      · have hlt2 : i < k.length := by have := HLK.out; omega
        obtain ⟨ad, A2, c2, e0, x0, x1, x2, hl2, hC2⟩ := at_T24 HC.out (i : Int) (by omega) (by omega)
        obtain ⟨ad', A3, c3, e0', y0, y1, y2, hl3, hC3⟩ := at_T24 HC'.out (i : Int) (by omega) (by omega)
        subst e0 e0'
        replace x0 := (HB.out.cell (World.block_lt_of_cell? W _ x0)).trans x0
        replace x1 := (HB.out.cell (World.block_lt_of_cell? W _ x1)).trans x1
        replace x2 := (HB.out.cell (World.block_lt_of_cell? W _ x2)).trans x2
        replace y0 := (HB.out.cell (World.block_lt_of_cell? W _ y0)).trans y0
        replace y1 := (HB.out.cell (World.block_lt_of_cell? W _ y1)).trans y1
        replace y2 := (HB.out.cell (World.block_lt_of_cell? W _ y2)).trans y2
        rw [Int.toNat_natCast] at x0 x1 x2 y0 y1 y2
        have HN := Aside0.mk (same_snoc hlt hlt2)
        have HF := Aside0.mk (same_at hlt hlt2)
        have HZ := Aside0.mk (hm.out _ (rdT_mem l hlt))
        obtain ⟨x, hx⟩ : ∃ x, x = rd_T24 l (i : Int) := ⟨_, rfl⟩
        obtain ⟨y, hy⟩ : ∃ y, y = rd_T24 k (i : Int) := ⟨_, rfl⟩
        rw [← hx] at x0 x1 x2 hl2 hC2 HN HF HZ
        rw [← hy] at y0 y1 y2 hl3 hC3 HN HF
        have HC2 := Aside0.mk hC2
        have HC3 := Aside0.mk hC3
        clear hx hy hC2 hC3 hl2 hl3
        have z0 := alloc_far y0 (.cells #[.int .i64 x.f0, .int .i64 x.f1, .slice A2 x.f2.length c2] 24 (0, 0))
        have z1 := alloc_far y1 (.cells #[.int .i64 x.f0, .int .i64 x.f1, .slice A2 x.f2.length c2] 24 (0, 0))
        have z2 := alloc_far y2 (.cells #[.int .i64 x.f0, .int .i64 x.f1, .slice A2 x.f2.length c2] 24 (0, 0))
        have HB2 := Aside0.mk (below_alloc (below_alloc HB.out (.cells #[.int .i64 x.f0, .int .i64 x.f1, .slice A2 x.f2.length c2] 24 (0, 0))) (.cells #[.int .i64 y.f0, .int .i64 y.f1, .slice A3 y.f2.length c3] 24 (0, 0)))
        cases hs : sameT x y with
        | true =>
          have HT := Aside0.mk hs
          clear hs
          go_wp2_with (first | (go_at_call 42; refine (ih.out x y A2 A3 c2 c3 _ HZ.out (Kd.C_below HC2.out HB2.out) (Kd.C_below HC3.out HB2.out)).mono ?_; rw [HT.out]; rintro e w1 ⟨rfl, hb⟩; have HB3 := Aside0.mk (below_step HB2.out hb); clear hb))
          go_roundw
          case rel => exact ⟨i + 1, by omega, by go_num, ⟨by rw [HN.out, HS.out, HT.out]; rfl⟩, HB3⟩
          case measure => simp [intOf]; omega
        | false =>
          have HT := Aside0.mk hs
          clear hs
          go_wp2_with (first | (go_at_call 42; refine (ih.out x y A2 A3 c2 c3 _ HZ.out (Kd.C_below HC2.out HB2.out) (Kd.C_below HC3.out HB2.out)).mono ?_; rw [HT.out]; rintro e w1 ⟨rfl, hb⟩; have HB3 := Aside0.mk (below_step HB2.out hb); clear hb))
          go_ret
          exact ⟨by rw [HF.out, HT.out]; simp, HB3.out⟩
      · obtain rfl : i = l.length := by omega
        go_wp2
        go_ret
        refine ⟨?_, HB.out⟩
        have := HS.out
        rw [List.take_length, HLK.out, List.take_length] at this
        rw [this]
        rfl
  · have e1 : ((l.length : Int) != (k.length : Int)) = true := by simp; omega
    rw [sameLs_len hlk]
    go_enter Try.func41, Try.ntmps41
    go_wp2
    go_ret
    exact ⟨rfl, Below.refl _ _⟩
set_option maxHeartbeats 1000000 in
set_option maxRecDepth 100000 in
theorem same_in : ∀ m, SameAt m := by
  intro m
  induction m with
  | zero => intro x y A A' c c' W h; cases x; simp [tsize] at h
  | succ m ih =>
    intro x y A A' c c' W hm hC hC'
    have IH := Aside0.mk ih
    have HM : Aside0 (∀ z ∈ x.f2, tsize z ≤ m) := ⟨fun z hz => by have := lsize_mem x.f2 z hz; rw [tsize_eq] at hm; omega⟩
    have HB := Aside0.mk (below_alloc (below_alloc (Below.refl W.heap.size W) (.cells #[.int .i64 x.f0, .int .i64 x.f1, .slice A x.f2.length c] 24 (0, 0))) (.cells #[.int .i64 y.f0, .int .i64 y.f1, .slice A' y.f2.length c'] 24 (0, 0)))
    have HC := Aside0.mk (Kd.C_below hC HB.out)
    have HC' := Aside0.mk (Kd.C_below hC' HB.out)
    clear ih hm hC hC'
    rw [sameT_eq]
    by_cases h0 : x.f0 = y.f0
    · by_cases h1 : x.f1 = y.f1
      · have e0 : (x.f0 == y.f0) = true := beq_iff_eq.mpr h0
        have e1 : (x.f1 == y.f1) = true := beq_iff_eq.mpr h1
        rw [e0, e1, Bool.true_and, Bool.true_and]
        clear h0 h1
        go_enter Try.func42, Try.ntmps42
        go_wp2_with (first | (go_at_call 41; refine (equalFunc_calls m IH x.f2 y.f2 A A' c c' _ HM HC HC').mono ?_; rintro e w1 ⟨rfl, hb⟩; have HB2 := Aside0.mk (below_step HB.out hb); clear hb))
        go_ret
        exact ⟨rfl, HB2.out⟩
      · have e0 : (x.f0 == y.f0) = true := beq_iff_eq.mpr h0
        have e1 : (x.f1 == y.f1) = false := beq_eq_false_iff_ne.mpr h1
        rw [e0, e1, Bool.true_and, Bool.false_and]
        clear h0 h1
        go_enter Try.func42, Try.ntmps42
        go_wp2
        go_ret
        exact ⟨rfl, HB.out⟩
    · have e0 : (x.f0 == y.f0) = false := beq_eq_false_iff_ne.mpr h0
      rw [e0, Bool.false_and]
      clear h0
      go_enter Try.func42, Try.ntmps42
      go_wp2
      go_ret
      exact ⟨rfl, HB.out⟩
def term_Same.f (a0_0 : Int) (a0_1 : Int) (l0_2 : List (S24)) (a1_0 : Int) (a1_1 : Int) (l1_2 : List (S24)) : Option (Bool) := some (sameT ⟨a0_0, a0_1, l0_2⟩ ⟨a1_0, a1_1, l1_2⟩)
theorem term_Same.calls (a0_0 : Int) (a0_1 : Int) (A0_2 : Option Addr) (c0_2 : Nat) (l0_2 : List (S24)) (a1_0 : Int) (a1_1 : Int) (A1_2 : Option Addr) (c1_2 : Nat) (l1_2 : List (S24)) (r : Bool) (w : World) (hr0_2 : Kd.C k24 w A0_2 l0_2.length l0_2) (hc0_2 : l0_2.length ≤ c0_2) (hr1_2 : Kd.C k24 w A1_2 l1_2.length l1_2) (hc1_2 : l1_2.length ≤ c1_2) (h : term_Same.f a0_0 a0_1 l0_2 a1_0 a1_1 l1_2 = some r) :
    Calls Try.prog 42 #[.agg #[.int .i64 a0_0, .int .i64 a0_1, .slice A0_2 l0_2.length c0_2], .agg #[.int .i64 a1_0, .int .i64 a1_1, .slice A1_2 l1_2.length c1_2]] w fun e w' => e = .returned (.bool r) ∧ Below w.heap.size w w' := by
  obtain rfl := Option.some.inj h
  exact same_in _ ⟨a0_0, a0_1, l0_2⟩ ⟨a1_0, a1_1, l1_2⟩ A0_2 A1_2 c0_2 c1_2 w (Nat.le_refl _) hr0_2 hr1_2
end Go.Proofs.Ytfonjmggalkbjaa.P
