/- What LawSymOnce rests on, part 10: several texts put together. -/
import Derived.Test.YtdinphnljokigaaGreatQ8
import Derived.Test.YtdinphnljokigaaGreatQ9
import Derived.Test.YtdinphnljokigaaGreatQ7
import Derived.Scope
import Derived.WalkMore
import Derived.ScopeJumps
import Derived.Test.YtdinphnljokigaaGreatQ2
set_option linter.unusedVariables false
set_option linter.unnecessarySimpa false
set_option linter.unusedSimpArgs false
set_option maxRecDepth 100000
section
namespace Go.Proofs.YtdinphnljokigaaGreat.P
open Go.RowKit Go.Proofs.YtdinphnljokigaaGreatW.PrintWords Go.Proofs.YtdinphnljokigaaGreatW.PrintLast Go.Proofs.YtdinphnljokigaaGreatW.PrintMore
mutual
def sameT (x y : S24) : Bool := match x, y with
 | ⟨a, b, l⟩, ⟨a', b', l'⟩ => a == a' && (b == b' && sameLs l l')
def sameLs (l k : List S24) : Bool := match l, k with
 | [], [] => true
 | x :: l, y :: k => sameT x y && sameLs l k
 | _, _ => false
end
theorem sameT_eq (x y : S24) : sameT x y = (x.f0 == y.f0 && (x.f1 == y.f1 && sameLs x.f2 y.f2)) := by cases x; cases y; rw [sameT]
theorem sameLs_len : ∀ {l k : List S24}, l.length ≠ k.length → sameLs l k = false
 | [], [], h => absurd rfl h
 | [], _ :: _, _ => by simp [sameLs]
 | _ :: _, [], _ => by simp [sameLs]
 | x :: l, y :: k, h => by
  rw [sameLs, sameLs_len (l := l) (k := k) (by simpa using h)]
  simp
theorem sameLs_append : ∀ {l1 k1 : List S24} (l2 k2 : List S24), l1.length = k1.length → sameLs (l1 ++ l2) (k1 ++ k2) = (sameLs l1 k1 && sameLs l2 k2)
 | [], [], l2, k2, _ => by simp [sameLs]
 | [], _ :: _, _, _, h => by simp at h
 | _ :: _, [], _, _, h => by simp at h
 | x :: l, y :: k, l2, k2, h => by
  simp only [List.cons_append, sameLs]
  rw [sameLs_append l2 k2 (by simpa using h), Bool.and_assoc]
theorem split_at (l : List S24) {i : Nat} (h : i < l.length) : l = l.take i ++ (rd_T24 l i :: l.drop (i + 1)) := by
 rw [rdT_get l h, ← List.drop_eq_getElem_cons h, List.take_append_drop]
theorem same_at {l k : List S24} {i : Nat} (h1 : i < l.length) (h2 : i < k.length) : sameLs l k = (sameLs (l.take i) (k.take i) && (sameT (rd_T24 l i) (rd_T24 k i) && sameLs (l.drop (i + 1)) (k.drop (i + 1)))) := by
 have e1 := split_at l h1
 have e2 := split_at k h2
 have := sameLs_append (l1 := l.take i) (k1 := k.take i) (rd_T24 l i :: l.drop (i + 1)) (rd_T24 k i :: k.drop (i + 1)) (by rw [List.length_take, List.length_take]; omega)
 rw [← e1, ← e2] at this
 rw [this, sameLs]
theorem same_snoc {l k : List S24} {i : Nat} (h1 : i < l.length) (h2 : i < k.length) : sameLs (l.take (i + 1)) (k.take (i + 1)) = (sameLs (l.take i) (k.take i) && sameT (rd_T24 l i) (rd_T24 k i)) := by
 rw [rdT_take l h1, rdT_take k h2, sameLs_append _ _ (by rw [List.length_take, List.length_take]; omega)]
 simp [sameLs]
def SameAt (m : Nat) : Prop := ∀ (x y : S24) (A A' : Option Addr) (c c' : Nat) (W : World), tsize x ≤ m → Kd.C k24 W A x.f2.length x.f2 → Kd.C k24 W A' y.f2.length y.f2 →
 Calls Tryz.prog 80 #[.agg #[.int .i64 x.f0, .int .i64 x.f1, .slice A x.f2.length c], .agg #[.int .i64 y.f0, .int .i64 y.f1, .slice A' y.f2.length c']] W fun e w' => e = .returned (.bool (sameT x y)) ∧ Below W.heap.size W w'
set_option maxHeartbeats 1000000 in
set_option maxRecDepth 100000 in
theorem equalFunc_calls (m : Nat) (ih : Aside0 (SameAt m)) (l k : List S24) (A A' : Option Addr) (c c' : Nat) (W : World) (hm : Aside0 (∀ x ∈ l, tsize x ≤ m)) (HC : Aside0 (Kd.C k24 W A l.length l)) (HC' : Aside0 (Kd.C k24 W A' k.length k)) :
  Calls Tryz.prog 79 #[.slice A l.length c, .slice A' k.length c', .func (.func 80) #[] #[]] W fun e w' => e = .returned (.bool (sameLs l k)) ∧ Below W.heap.size W w' := by
 have hml : l.length ≤ 9223372036854775807 := HC.out.2.1
 by_cases hlk : l.length = k.length
 ·have HB := aq_ (Below.refl W.heap.size W)
  have e1 : ((l.length : Int) != (k.length : Int)) = false := by simp [hlk]
  have HLK := aq_ hlk
  clear hlk
  go_enter Tryz.func79, Tryz.ntmps79
  go_wp2
  go_loopw [17] (fun v17 wr => ∃ i : Nat, i ≤ l.length ∧ v17 = .int .i64 i ∧ Aside0 (sameLs (l.take i) (k.take i) = true) ∧ Aside0 (Below W.heap.size W wr)) (fun v17 _ => l.length - (intOf v17).toNat)
  case atStart => exact ⟨0, by omega, rfl, ⟨by simp [sameLs]⟩, HB⟩
  case round =>
   clear HB
   obtain ⟨i, hi, rfl, HS, HB⟩ := hrel
   by_cases hlt : i < l.length
   ·have hlt2 : i < k.length := by have := HLK.out; omega
    obtain ⟨ad, A2, c2, e0, x0, x1, x2, hl2, hC2⟩ := at_T24 HC.out (i : Int) (by omega) (by omega)
    obtain ⟨ad', A3, c3, e0', y0, y1, y2, hl3, hC3⟩ := at_T24 HC'.out (i : Int) (by omega) (by omega)
    subst e0 e0'
    replace x0 := (HB.out.cell (World.block_lt_of_cell? W _ x0)).trans x0
    replace x1 := (HB.out.cell (World.block_lt_of_cell? W _ x1)).trans x1
    replace x2 := (HB.out.cell (World.block_lt_of_cell? W _ x2)).trans x2
    replace y0 := (HB.out.cell (World.block_lt_of_cell? W _ y0)).trans y0
    replace y1 := (HB.out.cell (World.block_lt_of_cell? W _ y1)).trans y1
    replace y2 := (HB.out.cell (World.block_lt_of_cell? W _ y2)).trans y2
    rw [Int.toNat_natCast] at x0 x1 x2 y0 y1 y2
    have HN := aq_ (same_snoc hlt hlt2)
    have HF := aq_ (same_at hlt hlt2)
    have HZ := aq_ (hm.out _ (rdT_mem l hlt))
    obtain ⟨x, hx⟩ : ∃ x, x = rd_T24 l (i : Int) := ⟨_, rfl⟩
    obtain ⟨y, hy⟩ : ∃ y, y = rd_T24 k (i : Int) := ⟨_, rfl⟩
    rw [← hx] at x0 x1 x2 hl2 hC2 HN HF HZ
    rw [← hy] at y0 y1 y2 hl3 hC3 HN HF
    have HC2 := aq_ hC2
    have HC3 := aq_ hC3
    clear hx hy hC2 hC3 hl2 hl3
    have z0 := alloc_far y0 (.cells #[.int .i64 x.f0, .int .i64 x.f1, .slice A2 x.f2.length c2] 36 (0, 0))
    have z1 := alloc_far y1 (.cells #[.int .i64 x.f0, .int .i64 x.f1, .slice A2 x.f2.length c2] 36 (0, 0))
    have z2 := alloc_far y2 (.cells #[.int .i64 x.f0, .int .i64 x.f1, .slice A2 x.f2.length c2] 36 (0, 0))
    have HB2 := aq_ (below_alloc (below_alloc HB.out (.cells #[.int .i64 x.f0, .int .i64 x.f1, .slice A2 x.f2.length c2] 36 (0, 0))) (.cells #[.int .i64 y.f0, .int .i64 y.f1, .slice A3 y.f2.length c3] 36 (0, 0)))
    cases hs : sameT x y with
    | true =>
     have HT := aq_ hs
     clear hs
     go_wp2_with (first | (go_at_call 80; refine (ih.out x y A2 A3 c2 c3 _ HZ.out (Kd.C_below HC2.out HB2.out) (Kd.C_below HC3.out HB2.out)).mono ?_; rw [HT.out]; rintro e w1 ⟨rfl, hb⟩; have HB3 := aq_ (below_step HB2.out hb); clear hb))
     go_roundw
     case rel => exact ⟨i + 1, by omega, by go_num, ⟨by rw [HN.out, HS.out, HT.out]; rfl⟩, HB3⟩
     case measure => simp [intOf]; omega
    | false =>
     have HT := aq_ hs
     clear hs
     go_wp2_with (first | (go_at_call 80; refine (ih.out x y A2 A3 c2 c3 _ HZ.out (Kd.C_below HC2.out HB2.out) (Kd.C_below HC3.out HB2.out)).mono ?_; rw [HT.out]; rintro e w1 ⟨rfl, hb⟩; have HB3 := aq_ (below_step HB2.out hb); clear hb))
     go_ret
     exact ⟨by rw [HF.out, HT.out]; simp, HB3.out⟩
   ·obtain rfl : i = l.length := by omega
    go_wp2
    go_ret
    refine ⟨?_, HB.out⟩
    have := HS.out
    rw [List.take_length, HLK.out, List.take_length] at this
    rw [this]
    rfl
 ·have e1 : ((l.length : Int) != (k.length : Int)) = true := by simp; omega
  rw [sameLs_len hlk]
  go_enter Tryz.func79, Tryz.ntmps79
  go_wp2
  go_ret
  exact ⟨rfl, Below.refl _ _⟩
set_option maxHeartbeats 1000000 in
set_option maxRecDepth 100000 in
theorem same_in : ∀ m, SameAt m := by
 intro m
 induction m with
 | zero => intro x y A A' c c' W h; cases x; simp [tsize] at h
 | succ m ih =>
  intro x y A A' c c' W hm hC hC'
  have IH := aq_ ih
  have HM : Aside0 (∀ z ∈ x.f2, tsize z ≤ m) := ⟨fun z hz => by have := lsize_mem x.f2 z hz; rw [tsize_eq] at hm; omega⟩
  have HB := aq_ (below_alloc (below_alloc (Below.refl W.heap.size W) (.cells #[.int .i64 x.f0, .int .i64 x.f1, .slice A x.f2.length c] 36 (0, 0))) (.cells #[.int .i64 y.f0, .int .i64 y.f1, .slice A' y.f2.length c'] 36 (0, 0)))
  have HC := aq_ (Kd.C_below hC HB.out)
  have HC' := aq_ (Kd.C_below hC' HB.out)
  clear ih hm hC hC'
  rw [sameT_eq]
  by_cases h0 : x.f0 = y.f0
  ·by_cases h1 : x.f1 = y.f1
   ·have e0 : (x.f0 == y.f0) = true := beq_iff_eq.mpr h0
    have e1 : (x.f1 == y.f1) = true := beq_iff_eq.mpr h1
    rw [e0, e1, Bool.true_and, Bool.true_and]
    clear h0 h1
    go_enter Tryz.func80, Tryz.ntmps80
    go_wp2_with (first | (go_at_call 79; refine (equalFunc_calls m IH x.f2 y.f2 A A' c c' _ HM HC HC').mono ?_; rintro e w1 ⟨rfl, hb⟩; have HB2 := aq_ (below_step HB.out hb); clear hb))
    go_ret
    exact ⟨rfl, HB2.out⟩
   ·have e0 : (x.f0 == y.f0) = true := beq_iff_eq.mpr h0
    have e1 : (x.f1 == y.f1) = false := beq_eq_false_iff_ne.mpr h1
    rw [e0, e1, Bool.true_and, Bool.false_and]
    clear h0 h1
    go_enter Tryz.func80, Tryz.ntmps80
    go_wp2
    go_ret
    exact ⟨rfl, HB.out⟩
  ·have e0 : (x.f0 == y.f0) = false := beq_eq_false_iff_ne.mpr h0
   rw [e0, Bool.false_and]
   clear h0
   go_enter Tryz.func80, Tryz.ntmps80
   go_wp2
   go_ret
   exact ⟨rfl, HB.out⟩
def term_Same.f (a0_0 : Int) (a0_1 : Int) (l0_2 : List (S24)) (a1_0 : Int) (a1_1 : Int) (l1_2 : List (S24)) : Option (Bool) := some (sameT ⟨a0_0, a0_1, l0_2⟩ ⟨a1_0, a1_1, l1_2⟩)
theorem term_Same.calls (a0_0 : Int) (a0_1 : Int) (A0_2 : Option Addr) (c0_2 : Nat) (l0_2 : List (S24)) (a1_0 : Int) (a1_1 : Int) (A1_2 : Option Addr) (c1_2 : Nat) (l1_2 : List (S24)) (r : Bool) (w : World) (hr0_2 : Kd.C k24 w A0_2 l0_2.length l0_2) (hc0_2 : l0_2.length ≤ c0_2) (hr1_2 : Kd.C k24 w A1_2 l1_2.length l1_2) (hc1_2 : l1_2.length ≤ c1_2) (h : term_Same.f a0_0 a0_1 l0_2 a1_0 a1_1 l1_2 = some r) :
  Calls Tryz.prog 80 #[.agg #[.int .i64 a0_0, .int .i64 a0_1, .slice A0_2 l0_2.length c0_2], .agg #[.int .i64 a1_0, .int .i64 a1_1, .slice A1_2 l1_2.length c1_2]] w fun e w' => e = .returned (.bool r) ∧ Below w.heap.size w w' := by
 obtain rfl := Option.some.inj h
 exact same_in _ ⟨a0_0, a0_1, l0_2⟩ ⟨a1_0, a1_1, l1_2⟩ A0_2 A1_2 c0_2 c1_2 w (Nat.le_refl _) hr0_2 hr1_2
theorem eta24 (x : S24) : (⟨x.f0, x.f1, x.f2⟩ : S24) = x := by cases x; rfl
def nmay (z : S24) : Bool := !(tmayB z && decide (foldT step_Size 0 z 1 ≤ 60))
def idxF (p : S24 → Bool) : List S24 → Int
 | [] => -1
 | x :: l => if p x = true then 0 else if idxF p l = -1 then -1 else idxF p l + 1
theorem idxF_ge (p : S24 → Bool) : ∀ l, -1 ≤ idxF p l ∧ idxF p l ≤ l.length
 | [] => by simp [idxF]
 | x :: l => by
  have := idxF_ge p l
  rw [idxF, List.length_cons]
  split
  ·omega
  ·split <;> omega
theorem idxF_any (p : S24 → Bool) : ∀ l, decide (0 ≤ idxF p l) = l.any p
 | [] => by simp [idxF]
 | x :: l => by
  have h1 := idxF_any p l
  have h2 := idxF_ge p l
  rw [idxF, List.any_cons]
  by_cases h : p x = true
  ·rw [if_pos h, h]; rfl
  ·rw [if_neg h, Bool.eq_false_iff.2 h, Bool.false_or, ← h1]
   split
   ·rename_i e; simp [e]
   ·rw [decide_eq_decide]; omega
theorem idxF_skip (p : S24 → Bool) : ∀ (l k : List S24), (∀ x ∈ l, p x = false) → idxF p (l ++ k) = if idxF p k = -1 then -1 else idxF p k + l.length
 | [], k, _ => by first | (simp; done) | (simp; intro h; exact h.symm)
 | x :: l, k, h => by
  have h1 := idxF_skip p l k fun y hy => h y (by simp [hy])
  have h2 := idxF_ge p k
  rw [List.cons_append, idxF, if_neg (by rw [h x (by simp)]; decide), h1, List.length_cons]
  by_cases e : idxF p k = -1
  ·rw [if_pos e, if_pos e, if_pos rfl]
  ·rw [if_neg e, if_neg e, if_neg (by omega)]; omega
theorem idxF_at (p : S24 → Bool) {l : List S24} {i : Nat} (hi : i < l.length) (h0 : ∀ x ∈ l.take i, p x = false) (h1 : p (rd_T24 l i) = true) : idxF p l = i := by
 have e : l = l.take i ++ (rd_T24 l i :: l.drop (i + 1)) := by
  rw [rdT_get l hi, ← List.drop_eq_getElem_cons hi, List.take_append_drop]
 rw [e, idxF_skip p _ _ h0, idxF, if_pos h1, List.length_take]
 simp
 omega
theorem idxF_none (p : S24 → Bool) {l : List S24} (h : ∀ x ∈ l, p x = false) : idxF p l = -1 := by
 have := idxF_skip p l [] h
 simpa [idxF] using this
theorem take_all {p : S24 → Bool} {l : List S24} {i : Nat} (hi : i < l.length) (h0 : ∀ x ∈ l.take i, p x = false) (h1 : p (rd_T24 l i) = false) : ∀ x ∈ l.take (i + 1), p x = false := by
 intro x hx
 rw [rdT_take l hi] at hx
 rcases List.mem_append.1 hx with hx | hx
 ·exact h0 x hx
 ·rw [List.mem_singleton.1 hx]; exact h1
set_option maxHeartbeats 1000000 in
set_option maxRecDepth 100000 in
theorem each_may  (x : S24) (A : Option Addr) (c : Nat) (W : World) (HC : Aside0 (Kd.C k24 W A x.f2.length x.f2)) (HL : Aside0 (x.f2.length ≤ c)) :
  Calls Tryz.prog 38 #[.agg #[.int .i64 x.f0, .int .i64 x.f1, .slice A x.f2.length c]] W fun e W' => e = .returned (.bool (nmay x)) ∧ Below W.heap.size W W' := by
 have B0 := blk_new W (.cells #[.int .i64 x.f0, .int .i64 x.f1, .slice A x.f2.length c] 36 (0, 0))
 have HB := aq_ (below_alloc (Below.refl W.heap.size W) (.cells #[.int .i64 x.f0, .int .i64 x.f1, .slice A x.f2.length c] 36 (0, 0)))
 obtain ⟨⟨k0, k1, k2⟩, _⟩ := cells3 B0
 clear B0
 obtain ⟨b, hb⟩ : ∃ b, b = (tmayB x && decide (foldT step_Size 0 x 1 ≤ 60)) := ⟨_, rfl⟩
 have HM := aq_ (show term_May.f x.f0 x.f1 x.f2 = some b by rw [hb]; unfold term_May.f; rw [eta24])
 have HE := aq_ hb
 show Calls _ _ _ W fun e W' => e = .returned (.bool (!(tmayB x && decide (foldT step_Size 0 x 1 ≤ 60)))) ∧ Below W.heap.size W W'
 rw [← hb]
 clear hb
 go_enter Tryz.func38, Tryz.ntmps38
 go_wp2_with (first | (go_at_call 26; (with_reducible refine (term_May.calls x.f0 x.f1 A c x.f2 b _ (Kd.C_below HC.out HB.out) HL.out HM.out).mono ?_); rintro e w1 ⟨rfl, hb⟩; have HB := aq_ (below_step HB.out hb); clear hb))
 go_ret
 exact ⟨rfl, HB.out⟩
set_option maxHeartbeats 1000000 in
set_option maxRecDepth 100000 in
theorem index_may  (l : List S24) (A : Option Addr) (c : Nat) (W : World) (HC : Aside0 (Kd.C k24 W A l.length l)) :
  Calls Tryz.prog 70 #[.slice A l.length c, .func (.func 38) #[] #[]] W fun e w' => e = .returned (.int .i64 (idxF nmay l)) ∧ Below W.heap.size W w' := by
 have hml : l.length ≤ 9223372036854775807 := HC.out.2.1
 have HB := aq_ (Below.refl W.heap.size W)
 go_enter Tryz.func70, Tryz.ntmps70
 go_wp2
 go_loopw [8] (fun v8 wr => ∃ i : Nat, i ≤ l.length ∧ v8 = .int .i64 i ∧ Aside0 (∀ x ∈ l.take i, nmay x = false) ∧ Aside0 (Below W.heap.size W wr)) (fun v8 _ => l.length - (intOf v8).toNat)
 case atStart => exact ⟨0, by omega, rfl, ⟨by simp⟩, HB⟩
 case round =>
  clear HB
  obtain ⟨i, hi, rfl, HS, HB⟩ := hrel
  by_cases hlt : i < l.length
  ·obtain ⟨ad, A2, c2, e0, x0, x1, x2, hl2, hC2⟩ := at_T24 HC.out (i : Int) (by omega) (by omega)
   subst e0
   replace x0 := (HB.out.cell (World.block_lt_of_cell? W _ x0)).trans x0
   replace x1 := (HB.out.cell (World.block_lt_of_cell? W _ x1)).trans x1
   replace x2 := (HB.out.cell (World.block_lt_of_cell? W _ x2)).trans x2
   rw [Int.toNat_natCast] at x0 x1 x2
   have HA := aq_ (fun h => idxF_at nmay hlt HS.out h)
   have HN := aq_ (fun h => take_all (p := nmay) hlt HS.out h)
   obtain ⟨y, hy⟩ : ∃ y, y = rd_T24 l (i : Int) := ⟨_, rfl⟩
   rw [← hy] at x0 x1 x2 hl2 hC2 HA HN
   have HC2 := aq_ hC2
   have HL2 := aq_ hl2
   clear hy hC2 hl2
   cases hs : nmay y with
   | true =>
    have HT := aq_ hs
    have HI := aq_ (HA.out hs)
    clear hs
    go_wp2_with (first | (go_at_call 38; (with_reducible refine (each_may y A2 c2 _  ⟨Kd.C_below HC2.out HB.out⟩ HL2).mono ?_); rw [HT.out]; rintro e w1 ⟨rfl, hb⟩; have HB := aq_ (below_step HB.out hb); clear hb))
    go_ret
    exact ⟨by rw [HI.out]; rfl, HB.out⟩
   | false =>
    have HT := aq_ hs
    have HI := aq_ (HN.out hs)
    clear hs
    go_wp2_with (first | (go_at_call 38; (with_reducible refine (each_may y A2 c2 _  ⟨Kd.C_below HC2.out HB.out⟩ HL2).mono ?_); rw [HT.out]; rintro e w1 ⟨rfl, hb⟩; have HB := aq_ (below_step HB.out hb); clear hb))
    go_roundw
    case rel => exact ⟨i + 1, by omega, by go_num, HI, HB⟩
    case measure => simp [intOf]; omega
  ·obtain rfl : i = l.length := by omega
   go_wp2
   go_ret
   refine ⟨?_, HB.out⟩
   have := HS.out
   rw [List.take_length] at this
   rw [idxF_none _ this]
   rfl
set_option maxHeartbeats 1000000 in
set_option maxRecDepth 100000 in
theorem contains_may  (l : List S24) (A : Option Addr) (c : Nat) (W : World) (HC : Aside0 (Kd.C k24 W A l.length l)) :
  Calls Tryz.prog 37 #[.slice A l.length c, .func (.func 38) #[] #[]] W fun e w' => e = .returned (.bool (l.any nmay)) ∧ Below W.heap.size W w' := by
 obtain ⟨r, hr⟩ : ∃ r, r = idxF nmay l := ⟨_, rfl⟩
 have HR := aq_ hr
 have HD := aq_ (show decide (0 ≤ r) = l.any nmay by rw [hr]; exact idxF_any _ l)
 clear hr
 rw [← HD.out]
 go_enter Tryz.func37, Tryz.ntmps37
 go_wp2_with (first | (go_at_call 70; (with_reducible refine (index_may l A c _  HC).mono ?_); rw [← HR.out]; rintro e w1 ⟨rfl, hb⟩; have HB := aq_ hb; clear hb))
 go_ret
 exact ⟨rfl, HB.out⟩
def mayL (l : List S24) : Bool := decide (l.length ≤ 40) && !(l.any nmay)
def know_May.f (l0 : List (S24)) : Option (Bool) := some (mayL l0)
set_option maxHeartbeats 1000000 in
set_option maxRecDepth 100000 in
theorem know_May.calls (A0 : Option Addr) (c0 : Nat) (l0 : List (S24)) (r : Bool) (w : World) (hr0 : Kd.C k24 w A0 l0.length l0) (hc0 : l0.length ≤ c0) (h : know_May.f l0 = some r) :
  Calls Tryz.prog 19 #[.slice A0 l0.length c0] w fun e w' => e = .returned (.bool r) ∧ Below w.heap.size w w' := by
 have hr := Option.some.inj h
 have H0 := aq_ hr0
 have HR := aq_ hr
 have HB := aq_ (Below.refl w.heap.size w)
 clear hr0 hc0 h
 obtain ⟨b, hb⟩ : ∃ b, b = (l0.any nmay) := ⟨_, rfl⟩
 unfold mayL at hr
 rw [← hb] at hr
 have HE := aq_ hb
 clear hb
 by_cases h40 : l0.length ≤ 40
 ·have e1 : decide ((l0.length : Int) ≤ 40) = true := decide_eq_true (by omega)
  rw [decide_eq_true h40, Bool.true_and] at hr
  subst hr
  clear HR h40
  go_enter Tryz.func19, Tryz.ntmps19
  go_wp2_with (first | (go_at_call 37; refine (contains_may l0 A0 c0 _ ⟨H0.out⟩).mono ?_; rw [← HE.out]; rintro e w1 ⟨rfl, hb⟩; have HB := aq_ (below_step HB.out hb); clear hb))
  go_ret
  exact ⟨rfl, HB.out⟩
 ·have e1 : decide ((l0.length : Int) ≤ 40) = false := decide_eq_false (by omega)
  rw [decide_eq_false h40, Bool.false_and] at hr
  subst hr
  clear HR h40
  go_enter Tryz.func19, Tryz.ntmps19
  go_wp2
  go_ret
  exact ⟨rfl, HB.out⟩
theorem lsize_all (l : List S24) : ∀ x ∈ l, tsize x ≤ lsize l := lsize_mem l
def know_Same.f (l0 : List (S24)) (l1 : List (S24)) : Option (Bool) := some (sameLs l0 l1)
set_option maxHeartbeats 1000000 in
set_option maxRecDepth 100000 in
theorem know_Same.calls (A0 : Option Addr) (c0 : Nat) (l0 : List (S24)) (A1 : Option Addr) (c1 : Nat) (l1 : List (S24)) (r : Bool) (w : World) (hr0 : Kd.C k24 w A0 l0.length l0) (hc0 : l0.length ≤ c0) (hr1 : Kd.C k24 w A1 l1.length l1) (hc1 : l1.length ≤ c1) (h : know_Same.f l0 l1 = some r) :
  Calls Tryz.prog 48 #[.slice A0 l0.length c0, .slice A1 l1.length c1] w fun e w' => e = .returned (.bool r) ∧ Below w.heap.size w w' := by
 have HR := aq_ (Option.some.inj h)
 have H0 := aq_ hr0
 have H1 := aq_ hr1
 clear hr0 hr1 hc0 hc1 h
 go_enter Tryz.func48, Tryz.ntmps48
 go_wp2_with (first | (go_at_call 79; refine (equalFunc_calls (lsize l0) ⟨same_in _⟩ l0 l1 A0 A1 c0 c1 _ ⟨lsize_all l0⟩ H0 H1).mono ?_; rw [HR.out]; rintro e w1 ⟨rfl, hb⟩; have HB := aq_ hb; clear hb))
 go_ret
 exact ⟨rfl, HB.out⟩
end Go.Proofs.YtdinphnljokigaaGreat.P
end

section
namespace Go.Proofs.YtdinphnljokigaaGreat.P
open Go.RowKit Go.Lib Go.Proofs.YtdinphnljokigaaGreatW.PrintWords Go.Proofs.YtdinphnljokigaaGreatW.PrintLast Go.Proofs.YtdinphnljokigaaGreatW.PrintMore
theorem sin_any (n a b : Int) (w : World) : Calls Tryz.prog 43 #[.int .i64 n, .int .i64 a, .int .i64 b] w fun e w' => e = .returned (.bool (inB n a b)) ∧ w = w' := by
 by_cases h1 : a ≤ n
 ·by_cases h2 : n ≤ b
  ·go_enter Tryz.func43, Tryz.ntmps43
   go_wp2
   go_ret
   exact ⟨ret_bool (by simp [inB, h1, h2]), rfl⟩
  ·go_enter Tryz.func43, Tryz.ntmps43
   go_wp2
   go_ret
   exact ⟨ret_bool (by simp [inB, h1, h2]), rfl⟩
 ·have h3 : decide (a ≤ n) = false := by simpa using h1
  go_enter Tryz.func43, Tryz.ntmps43
  go_wp2
  go_ret
  exact ⟨ret_bool (by simp [inB]; omega), rfl⟩
theorem uin_any (n a b : Int) (w : World) : Calls Tryz.prog 71 #[.int .i64 n, .int .i64 a, .int .i64 b] w fun e w' => e = .returned (.bool (inB n a b)) ∧ w = w' := by
 by_cases h1 : a ≤ n
 ·by_cases h2 : n ≤ b
  ·go_enter Tryz.func71, Tryz.ntmps71
   go_wp2
   go_ret
   exact ⟨ret_bool (by simp [inB, h1, h2]), rfl⟩
  ·go_enter Tryz.func71, Tryz.ntmps71
   go_wp2
   go_ret
   exact ⟨ret_bool (by simp [inB, h1, h2]), rfl⟩
 ·have h3 : decide (a ≤ n) = false := by simpa using h1
  go_enter Tryz.func71, Tryz.ntmps71
  go_wp2
  go_ret
  exact ⟨ret_bool (by simp [inB]; omega), rfl⟩
def roleB (r : Int) : Bool := decide (0 ≤ r) && decide (r < 4)
theorem role_any (r : Int) (w : World) : Calls Tryz.prog 31 #[.int .i64 r] w fun e w' => e = .returned (.bool (roleB r)) ∧ w = w' := by
 by_cases h1 : 0 ≤ r
 ·by_cases h2 : r < 4
  ·go_enter Tryz.func31, Tryz.ntmps31
   go_wp2
   go_ret
   exact ⟨ret_bool (by simp [roleB, h1, h2]), rfl⟩
  ·go_enter Tryz.func31, Tryz.ntmps31
   go_wp2
   go_ret
   exact ⟨ret_bool (by simp [roleB, h1, h2]), rfl⟩
 ·have h3 : decide (0 ≤ r) = false := by simpa using h1
  go_enter Tryz.func31, Tryz.ntmps31
  go_wp2
  go_ret
  exact ⟨ret_bool (by simp [roleB]; omega), rfl⟩
def hasS (x : Ses) : Bool := inB x.user 1 255 && (inB x.epoch 0 1073741824 && (decide (x.draw < 4611686018427387904) && decide (x.cn < 4611686018427387904)))
set_option maxHeartbeats 1000000 in
theorem has_any (x : Ses) (w : World) : Calls Tryz.prog 39 #[.agg (sca x)] w fun e w' => e = .returned (.bool (hasS x)) ∧ Below w.heap.size w w' := by
 have e : hasS x = (inB x.user 1 255 && (inB x.epoch 0 1073741824 && (decide (x.draw < 4611686018427387904) && decide (x.cn < 4611686018427387904)))) := rfl
 obtain ⟨q0, q1, q2, q3, q4, q5, q6⟩ := sca_at x
 have HB := aq_ (below_box w x)
 rw [e]
 generalize h1 : inB x.user 1 255 = b1
 generalize h2 : inB x.epoch 0 1073741824 = b2
 generalize h3 : decide (x.draw < 4611686018427387904) = b3
 generalize h4 : decide (x.cn < 4611686018427387904) = b4
 have c1 := fun w => (sin_any x.user 1 255 w)
 have c2 := fun w => (sin_any x.epoch 0 1073741824 w)
 rw [h1] at c1
 rw [h2] at c2
 have C1 := aq_ c1
 have C2 := aq_ c2
 clear c1 c2 h1 h2 e
 cases b1 <;> cases b2 <;> cases b3 <;> cases b4
 all_goals
  go_enter Tryz.func39, Tryz.ntmps39
  go_wp2_with (first
   | (go_at_call 43; (with_reducible refine (C1.out _).mono ?_); rintro e w_ ⟨rfl, rfl⟩)
   | (go_at_call 43; (with_reducible refine (C2.out _).mono ?_); rintro e w_ ⟨rfl, rfl⟩))
  go_ret
  exact ⟨rfl, HB.out⟩
end Go.Proofs.YtdinphnljokigaaGreat.P
end

section
namespace Go.Proofs.YtdinphnljokigaaGreat.P
section
variable {P : Program} {a : Act} {w : World} {Q : Exit → Act → World → Prop}
theorem jump_mono {l : Nat} {J J' : Act → World → Prop} (h : ∀ a w, J a w → J' a w) : ∀ e a w, Exit.jump l J Q e a w → Exit.jump l J' Q e a w
 | .normal, _, _, h' => h'
 | .exit _, _, _, h' => h'
 | .goto _, _, _, h' => ⟨h'.1, h _ _ h'.2⟩
 | .ret, _, _, h' => h'
 | .panic _, _, _, h' => h'
 | .outgrown, _, _, h' => h'
theorem wp_scope_loop {c rest : Code} (l : Nat) (J : Act → World → Prop) (μ : Act → World → Nat) (hf : findLabel c l = some (Code.skip.seq rest))
  (pass : ∀ a w, J a w → rest.wp P (Exit.jump l (fun a' w' => J a' w' ∧ μ a' w' < μ a w) Q) a w)
  (first : (∀ a w, J a w → rest.wp P (Exit.jump l J Q) a w) → c.wp P (Exit.jump l J Q) a w) : (Code.scope c).wp P Q a w :=
 wp_scope_jumps l J μ hf (first fun a w hJ => wp_mono (pass a w hJ) (jump_mono fun _ _ h => h.1)) fun a w hJ => wp_seq (wp_skip (pass a w hJ))
end
end Go.Proofs.YtdinphnljokigaaGreat.P
end

section
namespace Go.Proofs.YtdinphnljokigaaGreat.P
open Go.RowKit Go.Lib Go.Proofs.YtdinphnljokigaaGreatW.PrintWords Go.Proofs.YtdinphnljokigaaGreatW.PrintLast Go.Proofs.YtdinphnljokigaaGreatW.PrintMore
structure Usr where
 no : Int
 role : Int
 key : List Int
def zusr : Usr := ⟨0, 0, []⟩
theorem infoU : (Tryz.prog.info? 67).map (fun i => (i.zero, i.size, i.bytes)) = some (some (.agg #[.int .i64 0, .int .i64 0, .slice none 0 0]), 3, 40) := by kernel_rfl
def kU : Kd Usr := Kd.iso (Kd.pair (Kd.int .i64) (Kd.pair (Kd.int .i64) (Kd.slice 5 (Kd.int .u8)))) (fun x : Usr => (x.no, x.role, x.key))
theorem kU_open {w : World} {x : Usr} {cs : List Value} (h : kU.K w x cs) : ∃ A2 c2, cs = [.int .i64 x.no, .int .i64 x.role, .slice A2 x.key.length c2] ∧ x.key.length ≤ c2 ∧ (Kd.int .u8).C w A2 x.key.length x.key := by
 obtain ⟨_, _, rfl, rfl, ⟨_, _, rfl, rfl, ⟨A2, c2, rfl, l2, g2⟩⟩⟩ := h
 exact ⟨A2, c2, rfl, l2, g2⟩
theorem kU_mk (w : World) (x : Usr) {A2 : Option Addr} {c2 : Nat} (l2 : x.key.length ≤ c2) (g2 : (Kd.int .u8).C w A2 x.key.length x.key) : kU.K w x [.int .i64 x.no, .int .i64 x.role, .slice A2 x.key.length c2] :=
 ⟨[.int .i64 x.no], [.int .i64 x.role, .slice A2 x.key.length c2], rfl, rfl, ⟨[.int .i64 x.role], [.slice A2 x.key.length c2], rfl, rfl, ⟨A2, c2, rfl, l2, g2⟩⟩⟩
def rdU (l : List Usr) (i : Int) : Usr := l.getD i.toNat zusr
theorem at_U {w : World} {A : Option Addr} {n : Nat} {l : List Usr} (h : kU.C w A n l) (i : Nat) (hi : i < n) : ∃ ad A2 c2, A = some ad ∧ w.cell? (ad.add (i * 3)) = some (.int .i64 (rdU l i).no) ∧ w.cell? ⟨(ad.add (i * 3)).block, (ad.add (i * 3)).off + 1, none⟩ = some (.int .i64 (rdU l i).role) ∧ w.cell? ⟨(ad.add (i * 3)).block, (ad.add (i * 3)).off + 2, none⟩ = some (.slice A2 (rdU l i).key.length c2) ∧ (rdU l i).key.length ≤ c2 ∧ (Kd.int .u8).C w A2 (rdU l i).key.length (rdU l i).key := by
 obtain ⟨ad, c, e, _, hK, hc0⟩ := Kd.C_get h zusr (i : Int) (by omega) (by omega)
 have hc : ∀ j u, c[j]? = some u → w.cell? (ad.add (i * 3 + j)) = some u := hc0
 obtain ⟨A2, c2, rfl, l2, g2⟩ := kU_open hK
 exact ⟨ad, A2, c2, e, hc 0 _ rfl, by rw [← add_field _ _ 1 (by omega)]; exact hc 1 _ rfl, by rw [← add_field _ _ 2 (by omega)]; exact hc 2 _ rfl, l2, g2⟩
theorem rdU_get (l : List Usr) {i : Nat} (h : i < l.length) : rdU l (i : Int) = l[i] := by
 unfold rdU
 rw [Int.toNat_natCast, List.getD_eq_getElem?_getD, List.getElem?_eq_getElem h]
 rfl
def mayUF : Int → List Usr → Bool
 | _, [] => true
 | last, u :: l => inB u.no (last + 1) 255 && (roleB u.role && (inB u.key.length 16 64 && mayUF u.no l))
def mayU (l : List Usr) : Bool := mayUF 0 l && decide ((l.length : Int) ≤ 8)
theorem drop_rdU (l : List Usr) {i : Nat} (h : i < l.length) : l.drop i = rdU l i :: l.drop (i + 1) := by
 rw [rdU_get l h, ← List.drop_eq_getElem_cons h]
theorem inB_le {n a b : Int} (h : inB n a b = true) : a ≤ n ∧ n ≤ b := by
 simpa [inB] using h
theorem may_step {last : Int} {l : List Usr} {i : Nat} (h : i < l.length) : mayUF last (l.drop i) = (inB (rdU l i).no (last + 1) 255 && (roleB (rdU l i).role && (inB ((rdU l i).key.length : Int) 16 64 && mayUF (rdU l i).no (l.drop (i + 1))))) := by
 rw [drop_rdU l h]
 rfl
set_option maxHeartbeats 4000000 in
theorem umay_any (l : List Usr) (A : Option Addr) (c : Nat) (w : World) (hr : kU.C w A l.length l) :
  Calls Tryz.prog 42 #[.slice A l.length c] w fun e w' => e = .returned (.bool (mayU l)) ∧ Below w.heap.size w w' := by
 have hml : l.length ≤ 9223372036854775807 := hr.2.1
 have HC := aq_ hr
 have HB := aq_ (Below.refl w.heap.size w)
 clear hr
 go_enter Tryz.func42, Tryz.ntmps42
 go_wp2
 refine wp_scope_straight ?_
 go_wp2
 refine wp_label ?_
 go_wp2
 go_loopw [3, 4, 9] (fun v3 v4 v9 wr => ∃ (i : Nat) (last : Int), i ≤ l.length ∧ v9 = .int .i64 i ∧ v3 = .int .i64 last ∧ v4 = .bool false ∧ 0 ≤ last ∧ last ≤ 255 ∧ Aside0 (mayUF 0 l = mayUF last (l.drop i)) ∧ Aside0 (Below w.heap.size w wr)) (fun v3 v4 v9 _ => l.length - (intOf v9).toNat)
 case atStart => exact ⟨0, 0, by omega, rfl, rfl, rfl, by omega, by omega, ⟨rfl⟩, HB⟩
 case round =>
  clear HB
  obtain ⟨i, last, hi, rfl, rfl, rfl, hl0, hl1, HM, HB⟩ := hrel
  by_cases hlt : i < l.length
  ·obtain ⟨ad, A2, c2, rfl, a0, a1, a2, hc2, hk2⟩ := at_U (Kd.C_below HC.out HB.out) i hlt
   have HM1 := aq_ (HM.out.trans (may_step hlt))
   have hw1 : wrap64 (last + 1) = last + 1 := w64 (by omega) (by omega)
   cases t0 : inB (rdU l i).no (last + 1) 255
   ·have T0 := aq_ t0
    clear t0
    go_wp2_with (first
     | (go_at_call 71; (with_reducible refine (uin_any (rdU l i).no (last + 1) 255 _).mono ?_); rw [T0.out]; rintro e w_ ⟨rfl, rfl⟩))
    rw [Exit.noGoto_ret]
    go_ret
    exact ⟨ret_bool (by have h := HM1.out; unfold mayU; rw [h, T0.out]; rfl), below_alloc HB.out _⟩
   cases t1 : roleB (rdU l i).role
   ·have T0 := aq_ t0
    have T1 := aq_ t1
    clear t0 t1
    go_wp2_with (first
     | (go_at_call 71; (with_reducible refine (uin_any (rdU l i).no (last + 1) 255 _).mono ?_); rw [T0.out]; rintro e w_ ⟨rfl, rfl⟩)
     | (go_at_call 31; (with_reducible refine (role_any (rdU l i).role _).mono ?_); rw [T1.out]; rintro e w_ ⟨rfl, rfl⟩))
    rw [Exit.noGoto_ret]
    go_ret
    exact ⟨ret_bool (by have h := HM1.out; unfold mayU; rw [h, T0.out, T1.out]; rfl), below_alloc HB.out _⟩
   cases t2 : inB ((rdU l i).key.length : Int) 16 64
   ·have T0 := aq_ t0
    have T1 := aq_ t1
    have T2 := aq_ t2
    clear t0 t1 t2
    go_wp2_with (first
     | (go_at_call 71; (with_reducible refine (uin_any (rdU l i).no (last + 1) 255 _).mono ?_); rw [T0.out]; rintro e w_ ⟨rfl, rfl⟩)
     | (go_at_call 31; (with_reducible refine (role_any (rdU l i).role _).mono ?_); rw [T1.out]; rintro e w_ ⟨rfl, rfl⟩)
     | (go_at_call 71; (with_reducible refine (uin_any ((rdU l i).key.length : Int) 16 64 _).mono ?_); rw [T2.out]; rintro e w_ ⟨rfl, rfl⟩))
    rw [Exit.noGoto_ret]
    go_ret
    exact ⟨ret_bool (by have h := HM1.out; unfold mayU; rw [h, T0.out, T1.out, T2.out]; rfl), below_alloc HB.out _⟩
   ·have T0 := aq_ t0
    have T1 := aq_ t1
    have T2 := aq_ t2
    have hn := inB_le t0
    clear t0 t1 t2
    go_wp2_with (first
     | (go_at_call 71; (with_reducible refine (uin_any (rdU l i).no (last + 1) 255 _).mono ?_); rw [T0.out]; rintro e w_ ⟨rfl, rfl⟩)
     | (go_at_call 31; (with_reducible refine (role_any (rdU l i).role _).mono ?_); rw [T1.out]; rintro e w_ ⟨rfl, rfl⟩)
     | (go_at_call 71; (with_reducible refine (uin_any ((rdU l i).key.length : Int) 16 64 _).mono ?_); rw [T2.out]; rintro e w_ ⟨rfl, rfl⟩))
    go_roundw
    case rel => exact ⟨i + 1, (rdU l i).no, by omega, by go_num, rfl, rfl, by omega, by omega, ⟨by rw [HM1.out, T0.out, T1.out, T2.out]; rfl⟩, ⟨below_alloc HB.out _⟩⟩
    case measure => simp [intOf]; omega
  ·obtain rfl : i = l.length := by omega
   have hm : mayU l = decide ((l.length : Int) ≤ 8) := by
    unfold mayU
    rw [HM.out, List.drop_length]
    rfl
   go_wp2
   rw [Exit.noGoto_ret]
   go_ret
   exact ⟨ret_bool hm.symm, HB.out⟩
theorem mayUF_gt : ∀ (l : List Usr) (last : Int), mayUF last l = true → ∀ u ∈ l, last < u.no
 | [], _, _, u, hu => by simp at hu
 | x :: l, last, h, u, hu => by
  simp only [mayUF, Bool.and_eq_true] at h
  obtain ⟨h1, _, _, h4⟩ := h
  have := (inB_le h1).1
  rcases List.mem_cons.1 hu with rfl | hu
  ·omega
  ·have := mayUF_gt l x.no h4 u hu
   omega
theorem mayUF_lt : ∀ (l : List Usr) (last : Int), mayUF last l = true → ∀ (i j : Nat) (hj : j < l.length) (hij : i < j), (l[i]'(by omega)).no < (l[j]).no
 | [], _, _, i, j, hj, _ => by simp at hj
 | x :: l, last, h, i, j, hj, hij => by
  simp only [mayUF, Bool.and_eq_true] at h
  obtain ⟨h1, _, _, h4⟩ := h
  obtain ⟨j', rfl⟩ : ∃ j', j = j' + 1 := ⟨j - 1, by omega⟩
  cases i with
  | zero =>
   simp only [List.getElem_cons_zero, List.getElem_cons_succ]
   exact mayUF_gt l x.no h4 _ (List.getElem_mem _)
  | succ i =>
   simp only [List.getElem_cons_succ]
   exact mayUF_lt l x.no h4 i j' (by simpa using hj) (by omega)
def idxU (no : Int) : List Usr → Int
 | [] => -1
 | u :: l => if u.no = no then 0 else if idxU no l = -1 then -1 else idxU no l + 1
def findU (l : List Usr) (no : Int) : Int := if mayU l = true then idxU no l else -1
theorem idxU_ge (no : Int) : ∀ l, -1 ≤ idxU no l ∧ idxU no l < l.length
 | [] => by simp [idxU]
 | x :: l => by
  have := idxU_ge no l
  rw [idxU, List.length_cons]
  split
  ·omega
  ·split <;> omega
theorem idxU_none (no : Int) : ∀ l : List Usr, (∀ u ∈ l, u.no ≠ no) → idxU no l = -1
 | [], _ => rfl
 | x :: l, h => by
  rw [idxU, if_neg (h x (by simp)), if_pos (idxU_none no l fun u hu => h u (by simp [hu]))]
theorem idxU_at (no : Int) : ∀ (l : List Usr) (i : Nat) (hi : i < l.length), (l[i]).no = no → (∀ j (hj : j < i), (l[j]'(by omega)).no ≠ no) → idxU no l = i
 | [], i, hi, _, _ => by simp at hi
 | x :: l, 0, hi, h, _ => by
  rw [idxU, if_pos (by simpa using h)]
  rfl
 | x :: l, i + 1, hi, h, hn => by
  have h0 : x.no ≠ no := by simpa using hn 0 (by omega)
  have ih := idxU_at no l i (by simpa using hi) (by simpa using h) fun j hj => by simpa using hn (j + 1) (by omega)
  rw [idxU, if_neg h0, ih, if_neg (by omega)]
  simp
set_option maxHeartbeats 1000000 in
theorem find1u_any (l : List Usr) (A : Option Addr) (c : Nat) (no : Int) (i : Nat) (p q : Nat) (w : World) (hr : kU.C w A l.length l) (hi : i < l.length) (hp : w.heap[p]? = some (.cells #[.slice A l.length c] 22 (0, 0))) (hq : w.heap[q]? = some (.cells #[.int .i64 no] 3 (0, 0))) :
  Calls Tryz.prog 67 #[.int .i64 i, .pointer (some ⟨p, 0, none⟩), .pointer (some ⟨q, 0, none⟩)] w fun e w' => e = .returned (.bool (decide (no ≤ (rdU l i).no))) ∧ Below w.heap.size w w' := by
 have HB := aq_ (Below.refl w.heap.size w)
 obtain ⟨ad, A2, c2, rfl, a0, _, _, _⟩ := at_U hr i hi
 have hp0 := blk_cell hp 0
 have hq0 := blk_cell hq 0
 simp only [List.getElem?_toArray, List.getElem?_cons_zero] at hp0 hq0
 clear hr hp hq
 go_enter Tryz.func67, Tryz.ntmps67
 go_upto_region 1 with (fail)
 go_region
 go_wp2
 go_ret
 exact ⟨rfl, below_drew HB.out⟩
set_option maxHeartbeats 2000000 in
theorem search_any (l : List Usr) (A : Option Addr) (c : Nat) (no : Int) (p q : Nat) (w : World) (hr : kU.C w A l.length l) (hl : l.length ≤ 1000) (hs : ∀ (i j : Nat) (hj : j < l.length) (hij : i < j), (l[i]'(by omega)).no < (l[j]).no) (hp : w.heap[p]? = some (.cells #[.slice A l.length c] 22 (0, 0))) (hq : w.heap[q]? = some (.cells #[.int .i64 no] 3 (0, 0))) :
  Calls Tryz.prog 66 #[.int .i64 l.length, .func (.func 67) #[] #[.pointer (some ⟨p, 0, none⟩), .pointer (some ⟨q, 0, none⟩)]] w fun e w' => ∃ k : Nat, e = .returned (.int .i64 k) ∧ k ≤ l.length ∧ (∀ j, j < k → (rdU l j).no < no) ∧ (∀ j, k ≤ j → j < l.length → no ≤ (rdU l j).no) ∧ Below w.heap.size w w' := by
 have HR := aq_ hr
 have HS := aq_ hs
 have HP := aq_ hp
 have HQ := aq_ hq
 have HB := aq_ (Below.refl w.heap.size w)
 clear hr hs hp hq
 go_enter Tryz.func66, Tryz.ntmps66
 go_wp2
 go_loopw [5, 6] (fun v5 v6 wr => ∃ i j : Nat, v5 = .int .i64 i ∧ v6 = .int .i64 j ∧ i ≤ j ∧ j ≤ l.length ∧ Aside0 (∀ k, k < i → (rdU l k).no < no) ∧ Aside0 (∀ k, j ≤ k → k < l.length → no ≤ (rdU l k).no) ∧ Aside0 (Below w.heap.size w wr)) (fun v5 v6 _ => (intOf v6 - intOf v5).toNat)
 case atStart => exact ⟨0, l.length, rfl, rfl, Nat.zero_le _, Nat.le_refl _, ⟨fun k hk => absurd hk (by omega)⟩, ⟨fun k h1 h2 => absurd h1 (by omega)⟩, HB⟩
 case round =>
  clear HB
  obtain ⟨i, j, rfl, rfl, hij, hj, HI, HJ, HB⟩ := hrel
  by_cases hlt : i < j
  ·obtain ⟨m, hm⟩ : ∃ m : Nat, m = (i + j) / 2 := ⟨_, rfl⟩
   have he : ((i : Int) + (j : Int)) / 2 = (m : Int) := by omega
   have h1 : i ≤ m := by omega
   have h2 : m < j := by omega
   have HRW := aq_ (Kd.C_below HR.out HB.out)
   have HPW := aq_ (blk_below HP.out HB.out)
   have HQW := aq_ (blk_below HQ.out HB.out)
   clear hm
   by_cases hc : no ≤ (rdU l m).no
   ·have hd : decide (no ≤ (rdU l m).no) = true := decide_eq_true hc
    have HD := aq_ hd
    have HJ2 := aq_ (show ∀ k, m ≤ k → k < l.length → no ≤ (rdU l k).no from fun k hk hkl => by
     rcases Nat.eq_or_lt_of_le hk with rfl | hk
     ·exact hc
     ·have := HS.out m k hkl hk
      rw [rdU_get l hkl]
      rw [rdU_get l (show m < l.length by omega)] at hc
      omega)
    clear hd hc
    go_wp2_with (go_at_call 67; (with_reducible refine (find1u_any l A c no m p q _ HRW.out (by omega) HPW.out HQW.out).mono ?_); rw [HD.out]; rintro e w2 ⟨rfl, hb⟩; have HB2 := aq_ (below_step HB.out hb); clear hb)
    go_roundw
    case rel => exact ⟨i, m, rfl, rfl, h1, by omega, HI, HJ2, HB2⟩
    case measure => simp [intOf]; omega
   ·have hd : decide (no ≤ (rdU l m).no) = false := decide_eq_false hc
    have HD := aq_ hd
    have HI2 := aq_ (show ∀ k, k < m + 1 → (rdU l k).no < no from fun k hk => by
     rcases Nat.eq_or_lt_of_le (Nat.le_of_lt_succ hk) with rfl | hk
     ·omega
     ·have := HS.out k m (by omega) hk
      rw [rdU_get l (show k < l.length by omega)]
      rw [rdU_get l (show m < l.length by omega)] at hc
      omega)
    clear hd hc
    go_wp2_with (go_at_call 67; (with_reducible refine (find1u_any l A c no m p q _ HRW.out (by omega) HPW.out HQW.out).mono ?_); rw [HD.out]; rintro e w2 ⟨rfl, hb⟩; have HB2 := aq_ (below_step HB.out hb); clear hb)
    go_roundw
    case rel => exact ⟨m + 1, j, by go_num, rfl, by omega, by omega, HI2, HJ, HB2⟩
    case measure => simp [intOf]; omega
  ·obtain rfl : i = j := by omega
   go_wp2
   go_ret
   exact ⟨i, rfl, hj, HI.out, HJ.out, HB.out⟩
end Go.Proofs.YtdinphnljokigaaGreat.P
end
