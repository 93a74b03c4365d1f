/- What LawSymAgree rests on, part 6: several texts put together. -/
import Derived.Test.YtdinphnljokigaaGreatS4
import Derived.Test.YtdinphnljokigaaGreatS5
import Derived.Lib.AppendZerosOnto
import Derived.LoopN
import Derived.Handy
import Derived.Test.YtdinphnljokigaaGreatS3
set_option linter.unusedVariables false
set_option linter.unnecessarySimpa false
set_option linter.unusedSimpArgs false
set_option maxRecDepth 100000
section
namespace Go.Proofs.YtdinphnljokigaaGreat.P
open Go.RowKit Go.Proofs.YtdinphnljokigaaGreatW.PrintWords Go.Proofs.YtdinphnljokigaaGreatW.PrintLast Go.Proofs.YtdinphnljokigaaGreatW.PrintMore
mutual
def sameT (x y : S24) : Bool := match x, y with
 | ⟨a, b, l⟩, ⟨a', b', l'⟩ => a == a' && (b == b' && sameLs l l')
def sameLs (l k : List S24) : Bool := match l, k with
 | [], [] => true
 | x :: l, y :: k => sameT x y && sameLs l k
 | _, _ => false
end
theorem sameT_eq (x y : S24) : sameT x y = (x.f0 == y.f0 && (x.f1 == y.f1 && sameLs x.f2 y.f2)) := by cases x; cases y; rw [sameT]
theorem sameLs_len : ∀ {l k : List S24}, l.length ≠ k.length → sameLs l k = false
 | [], [], h => absurd rfl h
 | [], _ :: _, _ => by simp [sameLs]
 | _ :: _, [], _ => by simp [sameLs]
 | x :: l, y :: k, h => by
  rw [sameLs, sameLs_len (l := l) (k := k) (by simpa using h)]
  simp
theorem sameLs_append : ∀ {l1 k1 : List S24} (l2 k2 : List S24), l1.length = k1.length → sameLs (l1 ++ l2) (k1 ++ k2) = (sameLs l1 k1 && sameLs l2 k2)
 | [], [], l2, k2, _ => by simp [sameLs]
 | [], _ :: _, _, _, h => by simp at h
 | _ :: _, [], _, _, h => by simp at h
 | x :: l, y :: k, l2, k2, h => by
  simp only [List.cons_append, sameLs]
  rw [sameLs_append l2 k2 (by simpa using h), Bool.and_assoc]
theorem split_at (l : List S24) {i : Nat} (h : i < l.length) : l = l.take i ++ (rd_T24 l i :: l.drop (i + 1)) := by
 rw [rdT_get l h, ← List.drop_eq_getElem_cons h, List.take_append_drop]
theorem same_at {l k : List S24} {i : Nat} (h1 : i < l.length) (h2 : i < k.length) : sameLs l k = (sameLs (l.take i) (k.take i) && (sameT (rd_T24 l i) (rd_T24 k i) && sameLs (l.drop (i + 1)) (k.drop (i + 1)))) := by
 have e1 := split_at l h1
 have e2 := split_at k h2
 have := sameLs_append (l1 := l.take i) (k1 := k.take i) (rd_T24 l i :: l.drop (i + 1)) (rd_T24 k i :: k.drop (i + 1)) (by rw [List.length_take, List.length_take]; omega)
 rw [← e1, ← e2] at this
 rw [this, sameLs]
theorem same_snoc {l k : List S24} {i : Nat} (h1 : i < l.length) (h2 : i < k.length) : sameLs (l.take (i + 1)) (k.take (i + 1)) = (sameLs (l.take i) (k.take i) && sameT (rd_T24 l i) (rd_T24 k i)) := by
 rw [rdT_take l h1, rdT_take k h2, sameLs_append _ _ (by rw [List.length_take, List.length_take]; omega)]
 simp [sameLs]
def SameAt (m : Nat) : Prop := ∀ (x y : S24) (A A' : Option Addr) (c c' : Nat) (W : World), tsize x ≤ m → Kd.C k24 W A x.f2.length x.f2 → Kd.C k24 W A' y.f2.length y.f2 →
 Calls Tryz.prog 80 #[.agg #[.int .i64 x.f0, .int .i64 x.f1, .slice A x.f2.length c], .agg #[.int .i64 y.f0, .int .i64 y.f1, .slice A' y.f2.length c']] W fun e w' => e = .returned (.bool (sameT x y)) ∧ Below W.heap.size W w'
set_option maxHeartbeats 1000000 in
set_option maxRecDepth 100000 in
theorem equalFunc_calls (m : Nat) (ih : Aside0 (SameAt m)) (l k : List S24) (A A' : Option Addr) (c c' : Nat) (W : World) (hm : Aside0 (∀ x ∈ l, tsize x ≤ m)) (HC : Aside0 (Kd.C k24 W A l.length l)) (HC' : Aside0 (Kd.C k24 W A' k.length k)) :
  Calls Tryz.prog 79 #[.slice A l.length c, .slice A' k.length c', .func (.func 80) #[] #[]] W fun e w' => e = .returned (.bool (sameLs l k)) ∧ Below W.heap.size W w' := by
 have hml : l.length ≤ 9223372036854775807 := HC.out.2.1
 by_cases hlk : l.length = k.length
 ·have HB := aq_ (Below.refl W.heap.size W)
  have e1 : ((l.length : Int) != (k.length : Int)) = false := by simp [hlk]
  have HLK := aq_ hlk
  clear hlk
  go_enter Tryz.func79, Tryz.ntmps79
  go_wp2
  go_loopw [17] (fun v17 wr => ∃ i : Nat, i ≤ l.length ∧ v17 = .int .i64 i ∧ Aside0 (sameLs (l.take i) (k.take i) = true) ∧ Aside0 (Below W.heap.size W wr)) (fun v17 _ => l.length - (intOf v17).toNat)
  case atStart => exact ⟨0, by omega, rfl, ⟨by simp [sameLs]⟩, HB⟩
  case round =>
   clear HB
   obtain ⟨i, hi, rfl, HS, HB⟩ := hrel
   by_cases hlt : i < l.length
   ·have hlt2 : i < k.length := by have := HLK.out; omega
    obtain ⟨ad, A2, c2, e0, x0, x1, x2, hl2, hC2⟩ := at_T24 HC.out (i : Int) (by omega) (by omega)
    obtain ⟨ad', A3, c3, e0', y0, y1, y2, hl3, hC3⟩ := at_T24 HC'.out (i : Int) (by omega) (by omega)
    subst e0 e0'
    replace x0 := (HB.out.cell (World.block_lt_of_cell? W _ x0)).trans x0
    replace x1 := (HB.out.cell (World.block_lt_of_cell? W _ x1)).trans x1
    replace x2 := (HB.out.cell (World.block_lt_of_cell? W _ x2)).trans x2
    replace y0 := (HB.out.cell (World.block_lt_of_cell? W _ y0)).trans y0
    replace y1 := (HB.out.cell (World.block_lt_of_cell? W _ y1)).trans y1
    replace y2 := (HB.out.cell (World.block_lt_of_cell? W _ y2)).trans y2
    rw [Int.toNat_natCast] at x0 x1 x2 y0 y1 y2
    have HN := aq_ (same_snoc hlt hlt2)
    have HF := aq_ (same_at hlt hlt2)
    have HZ := aq_ (hm.out _ (rdT_mem l hlt))
    obtain ⟨x, hx⟩ : ∃ x, x = rd_T24 l (i : Int) := ⟨_, rfl⟩
    obtain ⟨y, hy⟩ : ∃ y, y = rd_T24 k (i : Int) := ⟨_, rfl⟩
    rw [← hx] at x0 x1 x2 hl2 hC2 HN HF HZ
    rw [← hy] at y0 y1 y2 hl3 hC3 HN HF
    have HC2 := aq_ hC2
    have HC3 := aq_ hC3
    clear hx hy hC2 hC3 hl2 hl3
    have z0 := alloc_far y0 (.cells #[.int .i64 x.f0, .int .i64 x.f1, .slice A2 x.f2.length c2] 36 (0, 0))
    have z1 := alloc_far y1 (.cells #[.int .i64 x.f0, .int .i64 x.f1, .slice A2 x.f2.length c2] 36 (0, 0))
    have z2 := alloc_far y2 (.cells #[.int .i64 x.f0, .int .i64 x.f1, .slice A2 x.f2.length c2] 36 (0, 0))
    have HB2 := aq_ (below_alloc (below_alloc HB.out (.cells #[.int .i64 x.f0, .int .i64 x.f1, .slice A2 x.f2.length c2] 36 (0, 0))) (.cells #[.int .i64 y.f0, .int .i64 y.f1, .slice A3 y.f2.length c3] 36 (0, 0)))
    cases hs : sameT x y with
    | true =>
     have HT := aq_ hs
     clear hs
     go_wp2_with (first | (go_at_call 80; refine (ih.out x y A2 A3 c2 c3 _ HZ.out (Kd.C_below HC2.out HB2.out) (Kd.C_below HC3.out HB2.out)).mono ?_; rw [HT.out]; rintro e w1 ⟨rfl, hb⟩; have HB3 := aq_ (below_step HB2.out hb); clear hb))
     go_roundw
     case rel => exact ⟨i + 1, by omega, by go_num, ⟨by rw [HN.out, HS.out, HT.out]; rfl⟩, HB3⟩
     case measure => simp [intOf]; omega
    | false =>
     have HT := aq_ hs
     clear hs
     go_wp2_with (first | (go_at_call 80; refine (ih.out x y A2 A3 c2 c3 _ HZ.out (Kd.C_below HC2.out HB2.out) (Kd.C_below HC3.out HB2.out)).mono ?_; rw [HT.out]; rintro e w1 ⟨rfl, hb⟩; have HB3 := aq_ (below_step HB2.out hb); clear hb))
     go_ret
     exact ⟨by rw [HF.out, HT.out]; simp, HB3.out⟩
   ·obtain rfl : i = l.length := by omega
    go_wp2
    go_ret
    refine ⟨?_, HB.out⟩
    have := HS.out
    rw [List.take_length, HLK.out, List.take_length] at this
    rw [this]
    rfl
 ·have e1 : ((l.length : Int) != (k.length : Int)) = true := by simp; omega
  rw [sameLs_len hlk]
  go_enter Tryz.func79, Tryz.ntmps79
  go_wp2
  go_ret
  exact ⟨rfl, Below.refl _ _⟩
set_option maxHeartbeats 1000000 in
set_option maxRecDepth 100000 in
theorem same_in : ∀ m, SameAt m := by
 intro m
 induction m with
 | zero => intro x y A A' c c' W h; cases x; simp [tsize] at h
 | succ m ih =>
  intro x y A A' c c' W hm hC hC'
  have IH := aq_ ih
  have HM : Aside0 (∀ z ∈ x.f2, tsize z ≤ m) := ⟨fun z hz => by have := lsize_mem x.f2 z hz; rw [tsize_eq] at hm; omega⟩
  have HB := aq_ (below_alloc (below_alloc (Below.refl W.heap.size W) (.cells #[.int .i64 x.f0, .int .i64 x.f1, .slice A x.f2.length c] 36 (0, 0))) (.cells #[.int .i64 y.f0, .int .i64 y.f1, .slice A' y.f2.length c'] 36 (0, 0)))
  have HC := aq_ (Kd.C_below hC HB.out)
  have HC' := aq_ (Kd.C_below hC' HB.out)
  clear ih hm hC hC'
  rw [sameT_eq]
  by_cases h0 : x.f0 = y.f0
  ·by_cases h1 : x.f1 = y.f1
   ·have e0 : (x.f0 == y.f0) = true := beq_iff_eq.mpr h0
    have e1 : (x.f1 == y.f1) = true := beq_iff_eq.mpr h1
    rw [e0, e1, Bool.true_and, Bool.true_and]
    clear h0 h1
    go_enter Tryz.func80, Tryz.ntmps80
    go_wp2_with (first | (go_at_call 79; refine (equalFunc_calls m IH x.f2 y.f2 A A' c c' _ HM HC HC').mono ?_; rintro e w1 ⟨rfl, hb⟩; have HB2 := aq_ (below_step HB.out hb); clear hb))
    go_ret
    exact ⟨rfl, HB2.out⟩
   ·have e0 : (x.f0 == y.f0) = true := beq_iff_eq.mpr h0
    have e1 : (x.f1 == y.f1) = false := beq_eq_false_iff_ne.mpr h1
    rw [e0, e1, Bool.true_and, Bool.false_and]
    clear h0 h1
    go_enter Tryz.func80, Tryz.ntmps80
    go_wp2
    go_ret
    exact ⟨rfl, HB.out⟩
  ·have e0 : (x.f0 == y.f0) = false := beq_eq_false_iff_ne.mpr h0
   rw [e0, Bool.false_and]
   clear h0
   go_enter Tryz.func80, Tryz.ntmps80
   go_wp2
   go_ret
   exact ⟨rfl, HB.out⟩
def term_Same.f (a0_0 : Int) (a0_1 : Int) (l0_2 : List (S24)) (a1_0 : Int) (a1_1 : Int) (l1_2 : List (S24)) : Option (Bool) := some (sameT ⟨a0_0, a0_1, l0_2⟩ ⟨a1_0, a1_1, l1_2⟩)
theorem term_Same.calls (a0_0 : Int) (a0_1 : Int) (A0_2 : Option Addr) (c0_2 : Nat) (l0_2 : List (S24)) (a1_0 : Int) (a1_1 : Int) (A1_2 : Option Addr) (c1_2 : Nat) (l1_2 : List (S24)) (r : Bool) (w : World) (hr0_2 : Kd.C k24 w A0_2 l0_2.length l0_2) (hc0_2 : l0_2.length ≤ c0_2) (hr1_2 : Kd.C k24 w A1_2 l1_2.length l1_2) (hc1_2 : l1_2.length ≤ c1_2) (h : term_Same.f a0_0 a0_1 l0_2 a1_0 a1_1 l1_2 = some r) :
  Calls Tryz.prog 80 #[.agg #[.int .i64 a0_0, .int .i64 a0_1, .slice A0_2 l0_2.length c0_2], .agg #[.int .i64 a1_0, .int .i64 a1_1, .slice A1_2 l1_2.length c1_2]] w fun e w' => e = .returned (.bool r) ∧ Below w.heap.size w w' := by
 obtain rfl := Option.some.inj h
 exact same_in _ ⟨a0_0, a0_1, l0_2⟩ ⟨a1_0, a1_1, l1_2⟩ A0_2 A1_2 c0_2 c1_2 w (Nat.le_refl _) hr0_2 hr1_2
theorem cells3 {w : World} {g : Nat} {t : TypeId} {x y z : Value} (h : w.heap[g]? = some (.cells #[x, y, z] t (0, 0))) : (w.cell? ⟨g, 0, none⟩ = some x ∧ w.cell? ⟨g, 1, none⟩ = some y ∧ w.cell? ⟨g, 2, none⟩ = some z) ∧ (w.frozen? ⟨g, 0, none⟩ = false ∧ w.frozen? ⟨g, 1, none⟩ = false ∧ w.frozen? ⟨g, 2, none⟩ = false) :=
 ⟨⟨blk_cell h 0, blk_cell h 1, blk_cell h 2⟩, blk_frozen h 0, blk_frozen h 1, blk_frozen h 2⟩
theorem eta24 (x : S24) : (⟨x.f0, x.f1, x.f2⟩ : S24) = x := by cases x; rfl
theorem same_calls (x y : S24) (A A' : Option Addr) (c c' : Nat) (W : World) (h : Kd.C k24 W A x.f2.length x.f2) (h' : Kd.C k24 W A' y.f2.length y.f2) :
  Calls Tryz.prog 80 #[.agg #[.int .i64 x.f0, .int .i64 x.f1, .slice A x.f2.length c], .agg #[.int .i64 y.f0, .int .i64 y.f1, .slice A' y.f2.length c']] W fun e w' => e = .returned (.bool (sameT x y)) ∧ Below W.heap.size W w' := same_in _ x y A A' c c' W (Nat.le_refl _) h h'
def nmay (z : S24) : Bool := !(tmayB z && decide (foldT step_Size 0 z 1 ≤ 60))
def idxF (p : S24 → Bool) : List S24 → Int
 | [] => -1
 | x :: l => if p x = true then 0 else if idxF p l = -1 then -1 else idxF p l + 1
theorem idxF_ge (p : S24 → Bool) : ∀ l, -1 ≤ idxF p l ∧ idxF p l ≤ l.length
 | [] => by simp [idxF]
 | x :: l => by
  have := idxF_ge p l
  rw [idxF, List.length_cons]
  split
  ·omega
  ·split <;> omega
theorem idxF_any (p : S24 → Bool) : ∀ l, decide (0 ≤ idxF p l) = l.any p
 | [] => by simp [idxF]
 | x :: l => by
  have h1 := idxF_any p l
  have h2 := idxF_ge p l
  rw [idxF, List.any_cons]
  by_cases h : p x = true
  ·rw [if_pos h, h]; rfl
  ·rw [if_neg h, Bool.eq_false_iff.2 h, Bool.false_or, ← h1]
   split
   ·rename_i e; simp [e]
   ·rw [decide_eq_decide]; omega
theorem idxF_skip (p : S24 → Bool) : ∀ (l k : List S24), (∀ x ∈ l, p x = false) → idxF p (l ++ k) = if idxF p k = -1 then -1 else idxF p k + l.length
 | [], k, _ => by first | (simp; done) | (simp; intro h; exact h.symm)
 | x :: l, k, h => by
  have h1 := idxF_skip p l k fun y hy => h y (by simp [hy])
  have h2 := idxF_ge p k
  rw [List.cons_append, idxF, if_neg (by rw [h x (by simp)]; decide), h1, List.length_cons]
  by_cases e : idxF p k = -1
  ·rw [if_pos e, if_pos e, if_pos rfl]
  ·rw [if_neg e, if_neg e, if_neg (by omega)]; omega
theorem idxF_at (p : S24 → Bool) {l : List S24} {i : Nat} (hi : i < l.length) (h0 : ∀ x ∈ l.take i, p x = false) (h1 : p (rd_T24 l i) = true) : idxF p l = i := by
 have e : l = l.take i ++ (rd_T24 l i :: l.drop (i + 1)) := by
  rw [rdT_get l hi, ← List.drop_eq_getElem_cons hi, List.take_append_drop]
 rw [e, idxF_skip p _ _ h0, idxF, if_pos h1, List.length_take]
 simp
 omega
theorem idxF_none (p : S24 → Bool) {l : List S24} (h : ∀ x ∈ l, p x = false) : idxF p l = -1 := by
 have := idxF_skip p l [] h
 simpa [idxF] using this
theorem take_all {p : S24 → Bool} {l : List S24} {i : Nat} (hi : i < l.length) (h0 : ∀ x ∈ l.take i, p x = false) (h1 : p (rd_T24 l i) = false) : ∀ x ∈ l.take (i + 1), p x = false := by
 intro x hx
 rw [rdT_take l hi] at hx
 rcases List.mem_append.1 hx with hx | hx
 ·exact h0 x hx
 ·rw [List.mem_singleton.1 hx]; exact h1
set_option maxHeartbeats 1000000 in
set_option maxRecDepth 100000 in
theorem each_has (t : S24) (At : Option Addr) (ct : Nat) (Bt : Nat) (x : S24) (A : Option Addr) (c : Nat) (W : World) (HP0 : Aside0 (W.heap[Bt]? = some (.cells #[.int .i64 t.f0, .int .i64 t.f1, .slice At t.f2.length ct] 36 (0, 0)))) (HP1 : Aside0 (Kd.C k24 W At t.f2.length t.f2)) (HC : Aside0 (Kd.C k24 W A x.f2.length x.f2)) (HL : Aside0 (x.f2.length ≤ c)) :
  Calls Tryz.prog 84 #[.agg #[.int .i64 x.f0, .int .i64 x.f1, .slice A x.f2.length c], .pointer (some ⟨Bt, 0, none⟩)] W fun e W' => e = .returned (.bool ((fun z => sameT z t) x)) ∧ Below W.heap.size W W' := by
 have B0 := blk_new W (.cells #[.int .i64 x.f0, .int .i64 x.f1, .slice A x.f2.length c] 36 (0, 0))
 have B1 := blk_alloc HP0.out (.cells #[.int .i64 x.f0, .int .i64 x.f1, .slice A x.f2.length c] 36 (0, 0))
 have HB := aq_ (below_alloc (Below.refl W.heap.size W) (.cells #[.int .i64 x.f0, .int .i64 x.f1, .slice A x.f2.length c] 36 (0, 0)))
 obtain ⟨⟨k0, k1, k2⟩, _⟩ := cells3 B0
 obtain ⟨⟨k3, k4, k5⟩, _⟩ := cells3 B1
 clear B0 B1
 go_enter Tryz.func84, Tryz.ntmps84
 go_wp2_with (first | (go_at_call 80; (with_reducible refine (same_calls x t A At c ct _ (Kd.C_below HC.out HB.out) (Kd.C_below HP1.out HB.out)).mono ?_); rintro e w1 ⟨rfl, hb⟩; have HB := aq_ (below_step HB.out hb); clear hb))
 go_ret
 exact ⟨rfl, HB.out⟩
set_option maxHeartbeats 1000000 in
set_option maxRecDepth 100000 in
theorem index_has (t : S24) (At : Option Addr) (ct : Nat) (Bt : Nat) (l : List S24) (A : Option Addr) (c : Nat) (W : World) (HP0 : Aside0 (W.heap[Bt]? = some (.cells #[.int .i64 t.f0, .int .i64 t.f1, .slice At t.f2.length ct] 36 (0, 0)))) (HP1 : Aside0 (Kd.C k24 W At t.f2.length t.f2)) (HC : Aside0 (Kd.C k24 W A l.length l)) :
  Calls Tryz.prog 70 #[.slice A l.length c, .func (.func 84) #[] #[.pointer (some ⟨Bt, 0, none⟩)]] W fun e w' => e = .returned (.int .i64 (idxF (fun z => sameT z t) l)) ∧ Below W.heap.size W w' := by
 have hml : l.length ≤ 9223372036854775807 := HC.out.2.1
 have HB := aq_ (Below.refl W.heap.size W)
 go_enter Tryz.func70, Tryz.ntmps70
 go_wp2
 go_loopw [8] (fun v8 wr => ∃ i : Nat, i ≤ l.length ∧ v8 = .int .i64 i ∧ Aside0 (∀ x ∈ l.take i, (fun z => sameT z t) x = false) ∧ Aside0 (Below W.heap.size W wr)) (fun v8 _ => l.length - (intOf v8).toNat)
 case atStart => exact ⟨0, by omega, rfl, ⟨by simp⟩, HB⟩
 case round =>
  clear HB
  obtain ⟨i, hi, rfl, HS, HB⟩ := hrel
  by_cases hlt : i < l.length
  ·obtain ⟨ad, A2, c2, e0, x0, x1, x2, hl2, hC2⟩ := at_T24 HC.out (i : Int) (by omega) (by omega)
   subst e0
   replace x0 := (HB.out.cell (World.block_lt_of_cell? W _ x0)).trans x0
   replace x1 := (HB.out.cell (World.block_lt_of_cell? W _ x1)).trans x1
   replace x2 := (HB.out.cell (World.block_lt_of_cell? W _ x2)).trans x2
   rw [Int.toNat_natCast] at x0 x1 x2
   have HA := aq_ (fun h => idxF_at (fun z => sameT z t) hlt HS.out h)
   have HN := aq_ (fun h => take_all (p := (fun z => sameT z t)) hlt HS.out h)
   obtain ⟨y, hy⟩ : ∃ y, y = rd_T24 l (i : Int) := ⟨_, rfl⟩
   rw [← hy] at x0 x1 x2 hl2 hC2 HA HN
   have HC2 := aq_ hC2
   have HL2 := aq_ hl2
   clear hy hC2 hl2
   cases hs : (fun z => sameT z t) y with
   | true =>
    have HT := aq_ hs
    have HI := aq_ (HA.out hs)
    clear hs
    go_wp2_with (first | (go_at_call 84; (with_reducible refine (each_has t At ct Bt y A2 c2 _ ⟨blk_below HP0.out HB.out⟩ ⟨Kd.C_below HP1.out HB.out⟩ ⟨Kd.C_below HC2.out HB.out⟩ HL2).mono ?_); rw [HT.out]; rintro e w1 ⟨rfl, hb⟩; have HB := aq_ (below_step HB.out hb); clear hb))
    go_ret
    exact ⟨by rw [HI.out]; rfl, HB.out⟩
   | false =>
    have HT := aq_ hs
    have HI := aq_ (HN.out hs)
    clear hs
    go_wp2_with (first | (go_at_call 84; (with_reducible refine (each_has t At ct Bt y A2 c2 _ ⟨blk_below HP0.out HB.out⟩ ⟨Kd.C_below HP1.out HB.out⟩ ⟨Kd.C_below HC2.out HB.out⟩ HL2).mono ?_); rw [HT.out]; rintro e w1 ⟨rfl, hb⟩; have HB := aq_ (below_step HB.out hb); clear hb))
    go_roundw
    case rel => exact ⟨i + 1, by omega, by go_num, HI, HB⟩
    case measure => simp [intOf]; omega
  ·obtain rfl : i = l.length := by omega
   go_wp2
   go_ret
   refine ⟨?_, HB.out⟩
   have := HS.out
   rw [List.take_length] at this
   rw [idxF_none _ this]
   rfl
set_option maxHeartbeats 1000000 in
set_option maxRecDepth 100000 in
theorem contains_has (t : S24) (At : Option Addr) (ct : Nat) (Bt : Nat) (l : List S24) (A : Option Addr) (c : Nat) (W : World) (HP0 : Aside0 (W.heap[Bt]? = some (.cells #[.int .i64 t.f0, .int .i64 t.f1, .slice At t.f2.length ct] 36 (0, 0)))) (HP1 : Aside0 (Kd.C k24 W At t.f2.length t.f2)) (HC : Aside0 (Kd.C k24 W A l.length l)) :
  Calls Tryz.prog 37 #[.slice A l.length c, .func (.func 84) #[] #[.pointer (some ⟨Bt, 0, none⟩)]] W fun e w' => e = .returned (.bool (l.any (fun z => sameT z t))) ∧ Below W.heap.size W w' := by
 obtain ⟨r, hr⟩ : ∃ r, r = idxF (fun z => sameT z t) l := ⟨_, rfl⟩
 have HR := aq_ hr
 have HD := aq_ (show decide (0 ≤ r) = l.any (fun z => sameT z t) by rw [hr]; exact idxF_any _ l)
 clear hr
 rw [← HD.out]
 go_enter Tryz.func37, Tryz.ntmps37
 go_wp2_with (first | (go_at_call 70; (with_reducible refine (index_has t At ct Bt l A c _ HP0 HP1 HC).mono ?_); rw [← HR.out]; rintro e w1 ⟨rfl, hb⟩; have HB := aq_ hb; clear hb))
 go_ret
 exact ⟨rfl, HB.out⟩
set_option maxHeartbeats 1000000 in
set_option maxRecDepth 100000 in
theorem each_may  (x : S24) (A : Option Addr) (c : Nat) (W : World) (HC : Aside0 (Kd.C k24 W A x.f2.length x.f2)) (HL : Aside0 (x.f2.length ≤ c)) :
  Calls Tryz.prog 38 #[.agg #[.int .i64 x.f0, .int .i64 x.f1, .slice A x.f2.length c]] W fun e W' => e = .returned (.bool (nmay x)) ∧ Below W.heap.size W W' := by
 have B0 := blk_new W (.cells #[.int .i64 x.f0, .int .i64 x.f1, .slice A x.f2.length c] 36 (0, 0))
 have HB := aq_ (below_alloc (Below.refl W.heap.size W) (.cells #[.int .i64 x.f0, .int .i64 x.f1, .slice A x.f2.length c] 36 (0, 0)))
 obtain ⟨⟨k0, k1, k2⟩, _⟩ := cells3 B0
 clear B0
 obtain ⟨b, hb⟩ : ∃ b, b = (tmayB x && decide (foldT step_Size 0 x 1 ≤ 60)) := ⟨_, rfl⟩
 have HM := aq_ (show term_May.f x.f0 x.f1 x.f2 = some b by rw [hb]; unfold term_May.f; rw [eta24])
 have HE := aq_ hb
 show Calls _ _ _ W fun e W' => e = .returned (.bool (!(tmayB x && decide (foldT step_Size 0 x 1 ≤ 60)))) ∧ Below W.heap.size W W'
 rw [← hb]
 clear hb
 go_enter Tryz.func38, Tryz.ntmps38
 go_wp2_with (first | (go_at_call 26; (with_reducible refine (term_May.calls x.f0 x.f1 A c x.f2 b _ (Kd.C_below HC.out HB.out) HL.out HM.out).mono ?_); rintro e w1 ⟨rfl, hb⟩; have HB := aq_ (below_step HB.out hb); clear hb))
 go_ret
 exact ⟨rfl, HB.out⟩
set_option maxHeartbeats 1000000 in
set_option maxRecDepth 100000 in
theorem index_may  (l : List S24) (A : Option Addr) (c : Nat) (W : World) (HC : Aside0 (Kd.C k24 W A l.length l)) :
  Calls Tryz.prog 70 #[.slice A l.length c, .func (.func 38) #[] #[]] W fun e w' => e = .returned (.int .i64 (idxF nmay l)) ∧ Below W.heap.size W w' := by
 have hml : l.length ≤ 9223372036854775807 := HC.out.2.1
 have HB := aq_ (Below.refl W.heap.size W)
 go_enter Tryz.func70, Tryz.ntmps70
 go_wp2
 go_loopw [8] (fun v8 wr => ∃ i : Nat, i ≤ l.length ∧ v8 = .int .i64 i ∧ Aside0 (∀ x ∈ l.take i, nmay x = false) ∧ Aside0 (Below W.heap.size W wr)) (fun v8 _ => l.length - (intOf v8).toNat)
 case atStart => exact ⟨0, by omega, rfl, ⟨by simp⟩, HB⟩
 case round =>
  clear HB
  obtain ⟨i, hi, rfl, HS, HB⟩ := hrel
  by_cases hlt : i < l.length
  ·obtain ⟨ad, A2, c2, e0, x0, x1, x2, hl2, hC2⟩ := at_T24 HC.out (i : Int) (by omega) (by omega)
   subst e0
   replace x0 := (HB.out.cell (World.block_lt_of_cell? W _ x0)).trans x0
   replace x1 := (HB.out.cell (World.block_lt_of_cell? W _ x1)).trans x1
   replace x2 := (HB.out.cell (World.block_lt_of_cell? W _ x2)).trans x2
   rw [Int.toNat_natCast] at x0 x1 x2
   have HA := aq_ (fun h => idxF_at nmay hlt HS.out h)
   have HN := aq_ (fun h => take_all (p := nmay) hlt HS.out h)
   obtain ⟨y, hy⟩ : ∃ y, y = rd_T24 l (i : Int) := ⟨_, rfl⟩
   rw [← hy] at x0 x1 x2 hl2 hC2 HA HN
   have HC2 := aq_ hC2
   have HL2 := aq_ hl2
   clear hy hC2 hl2
   cases hs : nmay y with
   | true =>
    have HT := aq_ hs
    have HI := aq_ (HA.out hs)
    clear hs
    go_wp2_with (first | (go_at_call 38; (with_reducible refine (each_may y A2 c2 _  ⟨Kd.C_below HC2.out HB.out⟩ HL2).mono ?_); rw [HT.out]; rintro e w1 ⟨rfl, hb⟩; have HB := aq_ (below_step HB.out hb); clear hb))
    go_ret
    exact ⟨by rw [HI.out]; rfl, HB.out⟩
   | false =>
    have HT := aq_ hs
    have HI := aq_ (HN.out hs)
    clear hs
    go_wp2_with (first | (go_at_call 38; (with_reducible refine (each_may y A2 c2 _  ⟨Kd.C_below HC2.out HB.out⟩ HL2).mono ?_); rw [HT.out]; rintro e w1 ⟨rfl, hb⟩; have HB := aq_ (below_step HB.out hb); clear hb))
    go_roundw
    case rel => exact ⟨i + 1, by omega, by go_num, HI, HB⟩
    case measure => simp [intOf]; omega
  ·obtain rfl : i = l.length := by omega
   go_wp2
   go_ret
   refine ⟨?_, HB.out⟩
   have := HS.out
   rw [List.take_length] at this
   rw [idxF_none _ this]
   rfl
set_option maxHeartbeats 1000000 in
set_option maxRecDepth 100000 in
theorem contains_may  (l : List S24) (A : Option Addr) (c : Nat) (W : World) (HC : Aside0 (Kd.C k24 W A l.length l)) :
  Calls Tryz.prog 37 #[.slice A l.length c, .func (.func 38) #[] #[]] W fun e w' => e = .returned (.bool (l.any nmay)) ∧ Below W.heap.size W w' := by
 obtain ⟨r, hr⟩ : ∃ r, r = idxF nmay l := ⟨_, rfl⟩
 have HR := aq_ hr
 have HD := aq_ (show decide (0 ≤ r) = l.any nmay by rw [hr]; exact idxF_any _ l)
 clear hr
 rw [← HD.out]
 go_enter Tryz.func37, Tryz.ntmps37
 go_wp2_with (first | (go_at_call 70; (with_reducible refine (index_may l A c _  HC).mono ?_); rw [← HR.out]; rintro e w1 ⟨rfl, hb⟩; have HB := aq_ hb; clear hb))
 go_ret
 exact ⟨rfl, HB.out⟩
def know_has.f (l0 : List (S24)) (a1_0 : Int) (a1_1 : Int) (l1_2 : List (S24)) : Option (Bool) := some (l0.any fun z => sameT z ⟨a1_0, a1_1, l1_2⟩)
set_option maxHeartbeats 1000000 in
set_option maxRecDepth 100000 in
theorem know_has.calls (A0 : Option Addr) (c0 : Nat) (l0 : List (S24)) (a1_0 : Int) (a1_1 : Int) (A1_2 : Option Addr) (c1_2 : Nat) (l1_2 : List (S24)) (r : Bool) (w : World) (hr0 : Kd.C k24 w A0 l0.length l0) (hc0 : l0.length ≤ c0) (hr1_2 : Kd.C k24 w A1_2 l1_2.length l1_2) (hc1_2 : l1_2.length ≤ c1_2) (h : know_has.f l0 a1_0 a1_1 l1_2 = some r) :
  Calls Tryz.prog 63 #[.slice A0 l0.length c0, .agg #[.int .i64 a1_0, .int .i64 a1_1, .slice A1_2 l1_2.length c1_2]] w fun e w' => e = .returned (.bool r) ∧ Below w.heap.size w w' := by
 have HR := aq_ (Option.some.inj h)
 have HB := aq_ (below_alloc (Below.refl w.heap.size w) (.cells #[.int .i64 a1_0, .int .i64 a1_1, .slice A1_2 l1_2.length c1_2] 36 (0, 0)))
 have B0 := aq_ (blk_new w (.cells #[.int .i64 a1_0, .int .i64 a1_1, .slice A1_2 l1_2.length c1_2] 36 (0, 0)))
 have H0 := aq_ hr0
 have H1 := aq_ hr1_2
 clear hr0 hr1_2 hc0 hc1_2 h
 go_enter Tryz.func63, Tryz.ntmps63
 go_wp2_with (first | (go_at_call 37; refine (contains_has ⟨a1_0, a1_1, l1_2⟩ A1_2 c1_2 w.heap.size l0 A0 c0 _ ⟨B0.out⟩ ⟨Kd.C_below H1.out HB.out⟩ ⟨Kd.C_below H0.out HB.out⟩).mono ?_; rw [HR.out]; rintro e w1 ⟨rfl, hb⟩; have HB := aq_ (below_step HB.out hb); clear hb))
 go_ret
 exact ⟨rfl, HB.out⟩
def mayL (l : List S24) : Bool := decide (l.length ≤ 40) && !(l.any nmay)
def know_May.f (l0 : List (S24)) : Option (Bool) := some (mayL l0)
set_option maxHeartbeats 1000000 in
set_option maxRecDepth 100000 in
theorem know_May.calls (A0 : Option Addr) (c0 : Nat) (l0 : List (S24)) (r : Bool) (w : World) (hr0 : Kd.C k24 w A0 l0.length l0) (hc0 : l0.length ≤ c0) (h : know_May.f l0 = some r) :
  Calls Tryz.prog 19 #[.slice A0 l0.length c0] w fun e w' => e = .returned (.bool r) ∧ Below w.heap.size w w' := by
 have hr := Option.some.inj h
 have H0 := aq_ hr0
 have HR := aq_ hr
 have HB := aq_ (Below.refl w.heap.size w)
 clear hr0 hc0 h
 obtain ⟨b, hb⟩ : ∃ b, b = (l0.any nmay) := ⟨_, rfl⟩
 unfold mayL at hr
 rw [← hb] at hr
 have HE := aq_ hb
 clear hb
 by_cases h40 : l0.length ≤ 40
 ·have e1 : decide ((l0.length : Int) ≤ 40) = true := decide_eq_true (by omega)
  rw [decide_eq_true h40, Bool.true_and] at hr
  subst hr
  clear HR h40
  go_enter Tryz.func19, Tryz.ntmps19
  go_wp2_with (first | (go_at_call 37; refine (contains_may l0 A0 c0 _ ⟨H0.out⟩).mono ?_; rw [← HE.out]; rintro e w1 ⟨rfl, hb⟩; have HB := aq_ (below_step HB.out hb); clear hb))
  go_ret
  exact ⟨rfl, HB.out⟩
 ·have e1 : decide ((l0.length : Int) ≤ 40) = false := decide_eq_false (by omega)
  rw [decide_eq_false h40, Bool.false_and] at hr
  subst hr
  clear HR h40
  go_enter Tryz.func19, Tryz.ntmps19
  go_wp2
  go_ret
  exact ⟨rfl, HB.out⟩
theorem lsize_all (l : List S24) : ∀ x ∈ l, tsize x ≤ lsize l := lsize_mem l
def know_Same.f (l0 : List (S24)) (l1 : List (S24)) : Option (Bool) := some (sameLs l0 l1)
set_option maxHeartbeats 1000000 in
set_option maxRecDepth 100000 in
theorem know_Same.calls (A0 : Option Addr) (c0 : Nat) (l0 : List (S24)) (A1 : Option Addr) (c1 : Nat) (l1 : List (S24)) (r : Bool) (w : World) (hr0 : Kd.C k24 w A0 l0.length l0) (hc0 : l0.length ≤ c0) (hr1 : Kd.C k24 w A1 l1.length l1) (hc1 : l1.length ≤ c1) (h : know_Same.f l0 l1 = some r) :
  Calls Tryz.prog 48 #[.slice A0 l0.length c0, .slice A1 l1.length c1] w fun e w' => e = .returned (.bool r) ∧ Below w.heap.size w w' := by
 have HR := aq_ (Option.some.inj h)
 have H0 := aq_ hr0
 have H1 := aq_ hr1
 clear hr0 hr1 hc0 hc1 h
 go_enter Tryz.func48, Tryz.ntmps48
 go_wp2_with (first | (go_at_call 79; refine (equalFunc_calls (lsize l0) ⟨same_in _⟩ l0 l1 A0 A1 c0 c1 _ ⟨lsize_all l0⟩ H0 H1).mono ?_; rw [HR.out]; rintro e w1 ⟨rfl, hb⟩; have HB := aq_ hb; clear hb))
 go_ret
 exact ⟨rfl, HB.out⟩
theorem eq_nil_no (ad : Addr) (n c : Nat) (w : World) : Sem.run Tryz.prog (binOp .eql 34 (.slice (some ad) n c) (.slice none 0 0)) w = .ok (.bool false) w := by
 kernel_rfl
theorem eq_nil_yes (n c : Nat) (w : World) : Sem.run Tryz.prog (binOp .eql 34 (.slice none n c) (.slice none 0 0)) w = .ok (.bool true) w := by
 kernel_rfl
theorem N_lit0 (W : World) (base : Nat) (ok : Nat → Prop) (hb : base ≤ W.heap.size) (hok : ∀ k, W.heap.size ≤ k → ok k) : Kd.N k24 36 (W.alloc (.cells #[] 36)) base ok (.slice (some ⟨W.heap.size, 0, none⟩) 0 0) ([] : List S24) :=
 ⟨fun k hk => hok k (by simp [Value.ownBlock] at hk; omega), [], rfl, ⟨fun k hk => hk.symm, [], ⟨by simp, .inr ⟨W.heap.size, 0, #[], rfl, hb, blk_new W _, Nat.le_refl _, Nat.zero_le _, rfl, rfl⟩⟩, ⟨rfl, fun j p h => by simp at h⟩⟩, fun j x c h => by simp at h⟩
def api_Term_30.f (l0 : List (S24)) : Option ((List (S24))) := if l0.length < 3518437208883 then some l0 else none
set_option maxHeartbeats 400000 in
set_option maxRecDepth 100000 in
theorem api_Term_30.calls (P0_ : Nat → Prop) (A0 : Option Addr) (c0 : Nat) (l0 : List (S24)) (r : List (S24)) (w : World) (hs0 : Kd.V k24 36 w w.heap.size (fun k_ => P0_ k_) (.slice A0 l0.length c0) l0) (h : api_Term_30.f l0 = some r) :
  Calls Tryz.prog 53 #[.slice A0 l0.length c0] w fun e w' => ∃ v0_ : Value, e = .returned (v0_) ∧ Kd.N k24 36 w' w.heap.size (fun k_ => (P0_ k_ ∨ w.heap.size ≤ k_)) v0_ r ∧ Below w.heap.size w w' := by
 unfold api_Term_30.f at h
 split at h
 case isFalse => simp at h
 rename_i hl
 obtain rfl := Option.some.inj h
 clear h
 have HL := aq_ hl
 have HB := aq_ (Below.refl w.heap.size w)
 obtain ⟨_, _, hF⟩ := Kd.V_at hs0
 have HF := aq_ (Kd.F_alloc (Kd.F_bound hF) (.cells #[] 36))
 cases A0 with
 | none =>
  have hnil : l0 = [] := by
   rcases l0 with _ | ⟨x, l⟩
   ·rfl
   ·obtain ⟨ad, e, _⟩ := (Kd.F_now hF).2.2 (by simp)
    simp at e
  subst hnil
  have e1 := eq_nil_yes 0 c0
  clear hs0 hl hF HF
  go_enter Tryz.func53, Tryz.ntmps53
  go_wp2
  go_ret
  exact ⟨_, rfl, Kd.N_nil _ _ _ _ _, HB.out⟩
 | some ad =>
  have e1 := eq_nil_no ad l0.length c0
  clear hs0 hl hF
  go_enter Tryz.func53, Tryz.ntmps53
  go_wp2_with (first | ((with_reducible refine gate_builtin (b := .append) (xs := #[.tmp 5, .tmp 6]) rfl ?_); (try (refine gate_guard (by rfl) ?_; dsimp only)); at_builtin; refine Kd.N_append_rows k24 (w0 := w) w.heap.size rfl (.tmp 5) (.tmp 6) 34 36 (.agg #[.int .i64 0, .int .i64 0, .slice none 0 0]) 40 rfl Tryz.underlying34 info24 rfl (by decide) (by omega) (.slice (some ⟨w.heap.size, 0, none⟩) 0 0) ([] : List S24) l0 (some ad) l0.length c0 (fun k_ => P0_ k_ ∨ w.heap.size ≤ k_) (fun k_ => P0_ k_ ∧ k_ < w.heap.size) rfl rfl ?aO ?aR ?aP ?aF ?aB ?aS ?aL ?_; (case aR => exact HF.out); (case aP => exact fun k hk => ⟨.inl hk.1, by have := hk.2; simp [Value.ownBlock]; omega⟩); (case aB => exact below_alloc HB.out _); (case aF => exact fun k hk => .inr (by simp at hk; omega)); (case aO => exact N_lit0 w w.heap.size _ (Nat.le_refl _) (fun k hk => .inr hk)); (case aS => exact below_size (below_alloc HB.out _)); (case aL => have := HL.out; simpa using (by omega : l0.length * 40 ≤ 140737488355328)); intro v1 w1 ho hb hg hat; have HO1 := aq_ ho; have HB1 := aq_ hb; clear ho hb hg hat))
  go_ret
  exact ⟨_, rfl, by have := HO1.out; simpa using this, HB1.out⟩
end Go.Proofs.YtdinphnljokigaaGreat.P
end

section
namespace Go.Proofs.YtdinphnljokigaaGreat.P
open Go.RowKit Go.Lib Go.Proofs.YtdinphnljokigaaGreatW.PrintWords Go.Proofs.YtdinphnljokigaaGreatW.PrintLast Go.Proofs.YtdinphnljokigaaGreatW.PrintMore
theorem cw64 {x : Int} (h0 : -9223372036854775808 ≤ x) (h1 : x < 9223372036854775808) : wrap64 x = x := by
 unfold wrap64
 omega
set_option maxHeartbeats 2000000 in
set_option maxRecDepth 100000 in
theorem grow_none (w : World) : Calls Tryz.prog 97 #[.slice none 0 0, .int .i64 0] w fun e w' => e = .returned (.slice none 0 0) ∧ w' = w := by
 go_enter Tryz.func97, Tryz.ntmps97
 go_wp2
 go_ret
 exact ⟨rfl, rfl⟩
abbrev zT : Value := .agg #[.int .i64 0, .int .i64 0, .slice none 0 0]
set_option maxHeartbeats 2000000 in
set_option maxRecDepth 100000 in
theorem grow_some (w : World) (n : Nat) (h0 : 0 < n) (hn : n < 3000000000000) : Calls Tryz.prog 97 #[.slice none 0 0, .int .i64 n] w fun e w' => ∃ G cs, e = .returned (.slice (some ⟨w.heap.size, 0, none⟩) 0 G) ∧ w' = w.drew.alloc (.cells cs 36) ∧ cs.size = G * 3 ∧ G ≤ maxLen := by
 have h1 : ¬ ((n : Int) < 0) := by omega
 have h4 : (n : Int) > 0 := by omega
 obtain ⟨i0, hi, hzz⟩ := Option.map_eq_some_iff.1 info24
 simp only [Prod.mk.injEq] at hzz
 obtain ⟨hz0, hs0, hb0⟩ := hzz
 have hrz : ∀ ty, (Builtin.append_ #[34, 3] ty #[.slice none 0 0, .int .i64 (n : Int)]).run Tryz.prog w =
   .ok (.slice (some ⟨w.heap.size, 0, none⟩) n (grownCap w n 0 36)) (w.drew.alloc (.cells ((#[] : Array Value) ++ Builtin.zeroCells zT.cells n ++ Builtin.zeroCells zT.cells (grownCap w n 0 36 - n)) 36)) := fun ty => by
  have h := Lib.run_append_grow_zeros w 34 3 ty 36 i0 zT .i64 .i64 Tryz.underlying34 Tryz.underlying3 hi hz0 none 0 0 [] (run_firstCells_none w.drew i0.size 0 0 0) n h0 (by omega) (by omega) (by omega) (by rw [hb0]; omega)
   (by rw [Nat.zero_add]; exact growslice_fits (by omega) (by rw [hb0]; omega))
  simpa using h
 have hGn : n ≤ grownCap w n 0 36 := grownCap_ge w _ _ _
 have hG : grownCap w n 0 36 ≤ maxLen := grownCap_le_maxLen w n 0 36 (by unfold maxLen; omega)
 have hsz : ((#[] : Array Value) ++ Builtin.zeroCells zT.cells n ++ Builtin.zeroCells zT.cells (grownCap w n 0 36 - n)).size = grownCap w n 0 36 * 3 := by
  have hz : zT.cells.size = 3 := rfl
  rw [Array.size_append, Array.size_append, size_zeroCells, size_zeroCells, hz]
  simp
  omega
 generalize grownCap w n 0 36 = G at hrz hGn hG hsz
 generalize ((#[] : Array Value) ++ Builtin.zeroCells zT.cells n ++ Builtin.zeroCells zT.cells (G - n)) = cs at hrz hsz
 have HQ := aq_ hG
 clear hi hz0 hs0 hb0
 go_enter Tryz.func97, Tryz.ntmps97
 go_wp2_with (at_builtin; refine Lib.wpList_append_run _ rfl _ _ _ _ rfl _ _ rfl rfl _ _ (hrz _) ?_)
 go_ret
 exact ⟨G, rfl, cs, rfl, hsz, HQ.out⟩
theorem grow_own (w : World) (n : Int) (h0 : 0 ≤ n) (hn : n < 3000000000000) : Calls Tryz.prog 97 #[.slice none 0 0, .int .i64 n] w fun e w' => ∃ v, e = .returned v ∧ Kd.N k24 36 w' w.heap.size (fun k => w.heap.size ≤ k) v ([] : List S24) ∧ Below w.heap.size w w' := by
 obtain ⟨m, rfl⟩ : ∃ m : Nat, n = (m : Int) := ⟨n.toNat, by omega⟩
 rcases Nat.eq_zero_or_pos m with rfl | hp
 ·refine (grow_none w).mono ?_
  rintro e w' ⟨rfl, rfl⟩
  exact ⟨_, rfl, Kd.N_nil _ _ _ _ _, Below.refl _ _⟩
 ·refine (grow_some w m hp (by omega)).mono ?_
  rintro e w' ⟨G, cs, rfl, rfl, hs, hG⟩
  refine ⟨_, rfl, Kd.R_N ⟨fun k hk => ?_, [], ?_, ⟨rfl, fun j x h => by simp at h⟩⟩, below_alloc (Below.drew (Below.refl _ _)) _⟩
  ·have : w.heap.size = k := by simpa [Value.ownBlock] using hk
   omega
  ·refine ⟨by simp, .inr ⟨w.heap.size, G, cs, rfl, Nat.le_refl _, heap_alloc_new _ _, Nat.zero_le _, hG, hs, ?_⟩⟩
   simp
set_option maxHeartbeats 2000000 in
set_option maxRecDepth 100000 in
theorem concat_two (w : World) (g : Nat) (A B : Option Addr) (ca cb : Nat) (l m : List S24) (P : Nat → Prop) (hg : w.heap[g]? = some (.cells #[.slice A l.length ca, .slice B m.length cb] 34 (0, 0))) (hA : Kd.F k24 w P A l.length l) (hB : Kd.F k24 w P B m.length m) (hl : l.length < 1000000000000) (hm : m.length < 1000000000000) :
  Calls Tryz.prog 83 #[.slice (some ⟨g, 0, none⟩) 2 2] w fun e w' => ∃ v, e = .returned v ∧ Kd.N k24 36 w' w.heap.size (fun k => P k ∨ w.heap.size ≤ k) v (l ++ m) ∧ Below w.heap.size w w' := by
 have HG := aq_ hg
 have HA := aq_ (Kd.F_bound hA)
 have HB := aq_ (Kd.F_bound hB)
 have HL := aq_ hl
 have HM := aq_ hm
 have k0 := blk_cell hg 0
 have k1 := blk_cell hg 1
 have e1 : wrap64 (0 + (l.length : Int)) = (l.length : Int) := by rw [cw64 (by omega) (by omega)]; omega
 have e2 : wrap64 (l.length : Int) = (l.length : Int) := cw64 (by omega) (by omega)
 have e3 : wrap64 ((l.length : Int) + (m.length : Int)) = (l.length : Int) + (m.length : Int) := cw64 (by omega) (by omega)
 have d1 : decide ((l.length : Int) < 0) = false := by simp
 have d2 : decide ((l.length : Int) + (m.length : Int) < 0) = false := by simp; omega
 clear hg hA hB hl hm
 go_enter Tryz.func83, Tryz.ntmps83
 go_wp2
 refine wp_loop_rounds 3 ?_
 rw [rounds_succ]
 go_wp2
 simp only [e2]
 rw [rounds_succ]
 go_wp2
 simp only [e3]
 rw [rounds_succ]
 go_wp2_with (first | (go_at_call 97; refine (grow_own _ ((l.length : Int) + (m.length : Int)) (by omega) (by have := HL.out; have := HM.out; omega)).mono ?_; rintro e w1 ⟨v1, rfl, hR, hb⟩; obtain ⟨A1, c1, rfl⟩ := Kd.N_slice hR; have b1 := blk_below HG.out hb; have q0 := blk_cell b1 0; have q1 := blk_cell b1 1; have HG1 := aq_ b1; have HR1 := aq_ (Kd.N_mono (ok' := fun k => P k ∨ w.heap.size ≤ k) hR (fun _ h => Or.inr h)); have Hb1 := aq_ hb; clear b1 hR hb k0 k1))
 refine wp_loop_rounds 3 ?_
 rw [rounds_succ]
 go_wp2_with (first | ((with_reducible refine gate_builtin (b := .append) (xs := #[.tmp 31, .tmp 32]) rfl ?_); (try (refine gate_guard (by rfl) ?_; dsimp only)); at_builtin; refine Kd.N_append_rows k24 (w0 := w) w.heap.size rfl (.tmp 31) (.tmp 32) 34 36 zT 40 rfl Tryz.underlying34 info24 rfl (by decide) (by omega) (.slice A1 0 c1) (([] : List S24)) l _ _ _ (fun k => P k ∨ w.heap.size ≤ k) (fun k => P k ∧ k < w.heap.size) rfl rfl ?aO ?aR ?aF ?aN ?aB ?aS ?aL ?_; (case aR => exact Kd.F_below HA.out Hb1.out); (case aB => exact Hb1.out); (case aF => exact fun k hk => ⟨Or.inl hk.1, fun e => by have := Kd.N_base HR1.out k e.symm; omega⟩); (case aN => exact fun k hk => Or.inr (Nat.le_trans Hb1.out.size hk)); (case aO => exact HR1.out); (case aS => exact below_size Hb1.out); (case aL => have := HL.out; have := HM.out; simp; omega); intro v2 w2 ho hb hg hat; have HR2 := aq_ ho; have Hb2 := aq_ hb; obtain ⟨A2, c2, rfl⟩ := Kd.N_slice ho; have b_ := blk_below HG.out hb; have p2 := blk_cell b_ 0; have r2 := blk_cell b_ 1; clear ho hb hg hat b_))
 rw [rounds_succ]
 go_wp2_with (first | ((with_reducible refine gate_builtin (b := .append) (xs := #[.tmp 31, .tmp 32]) rfl ?_); (try (refine gate_guard (by rfl) ?_; dsimp only)); at_builtin; refine Kd.N_append_rows k24 (w0 := w) w.heap.size rfl (.tmp 31) (.tmp 32) 34 36 zT 40 rfl Tryz.underlying34 info24 rfl (by decide) (by omega) (.slice A2 ([] ++ l).length c2) ([] ++ l) m _ _ _ (fun k => P k ∨ w.heap.size ≤ k) (fun k => P k ∧ k < w.heap.size) rfl rfl ?aO ?aR ?aF ?aN ?aB ?aS ?aL ?_; (case aR => exact Kd.F_below HB.out Hb2.out); (case aB => exact Hb2.out); (case aF => exact fun k hk => ⟨Or.inl hk.1, fun e => by have := Kd.N_base HR2.out k e.symm; omega⟩); (case aN => exact fun k hk => Or.inr (Nat.le_trans Hb2.out.size hk)); (case aO => exact HR2.out); (case aS => exact below_size Hb2.out); (case aL => have := HL.out; have := HM.out; simp; omega); intro v3 w3 ho hb hg hat; have HR3 := aq_ ho; have Hb3 := aq_ hb; obtain ⟨A3, c3, rfl⟩ := Kd.N_slice ho; have b_ := blk_below HG.out hb; have p3 := blk_cell b_ 0; have r3 := blk_cell b_ 1; clear ho hb hg hat b_))
 rw [rounds_succ]
 go_wp2
 go_ret
 exact ⟨_, rfl, by simpa using HR3.out, Hb3.out⟩
theorem concat_two' (w : World) (g : Nat) (A B : Option Addr) (ca cb : Nat) (l m : List S24) (n : Nat) (hn : m.length = n) (P : Nat → Prop) (hg : w.heap[g]? = some (.cells #[.slice A l.length ca, .slice B n cb] 34 (0, 0))) (hA : Kd.F k24 w P A l.length l) (hB : Kd.F k24 w P B n m) (hl : l.length < 1000000000000) (hm : n < 1000000000000) :
  Calls Tryz.prog 83 #[.slice (some ⟨g, 0, none⟩) 2 2] w fun e w' => ∃ v, e = .returned v ∧ Kd.N k24 36 w' w.heap.size (fun k => P k ∨ w.heap.size ≤ k) v (l ++ m) ∧ Below w.heap.size w w' := by
 subst hn
 exact concat_two w g A B ca cb l m P hg hA hB hl hm
end Go.Proofs.YtdinphnljokigaaGreat.P
end
