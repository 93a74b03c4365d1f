/- What LawSymAgree rests on, part 5: several texts put together. -/
import Derived.Test.YtdinphnljokigaaGreatS4
import Derived.Test.YtdinphnljokigaaGreatS3
set_option linter.unusedVariables false
set_option linter.unnecessarySimpa false
set_option linter.unusedSimpArgs false
set_option maxRecDepth 100000
section
namespace Go.Proofs.YtdinphnljokigaaGreat.P
open Go.RowKit Go.Proofs.YtdinphnljokigaaGreatW.PrintWords Go.Proofs.YtdinphnljokigaaGreatW.PrintLast Go.Proofs.YtdinphnljokigaaGreatW.PrintMore
def step_Size (s : Int) (_ : S24) (_ : Int) : Int := wrap64 (s + 1)
set_option maxHeartbeats 400000 in
set_option maxRecDepth 100000 in
theorem each_Size (Bs : Nat) (x : S24) (s : Int) (A : Option Addr) (c : Nat) (d : Int) (W : World) (HS : Aside0 (W.heap[Bs]? = some (.cells #[.int .i64 s] 3 (0, 0)))) :
  Calls Tryz.prog 82 #[.agg #[.int .i64 x.f0, .int .i64 x.f1, .slice A x.f2.length c], .int .i64 d, .pointer (some ⟨Bs, 0, none⟩)] W fun e W' => e = .returned (.tuple #[]) ∧ W'.heap[Bs]? = some (.cells #[.int .i64 (step_Size s x d)] 3 (0, 0)) ∧ W.grownBy W' (some Bs) := by
 have b1 := blk_alloc HS.out (.cells #[.int .i64 x.f0, .int .i64 x.f1, .slice A x.f2.length c] 36 (0, 0))
 have c1 := blk_cell b1 0
 have f1 := blk_frozen b1 0
 have B1 := aq_ b1
 clear b1
 go_enter Tryz.func82, Tryz.ntmps82
 go_wp2
 go_end0
 exact ⟨rfl, blk_put B1.out 0 _ rfl, World.grownBy.trans (World.grownBy_alloc W _ _) (grownBy_setCell' _ _ _)⟩
set_option maxHeartbeats 1000000 in
set_option maxRecDepth 100000 in
theorem down_Size (w0 : World) (Be Bd Bs : Nat) (hBs : w0.heap.size ≤ Bs) (hbe : Be ≠ Bs) (hbd : Bd ≠ Bs) : ∀ (m : Nat) (x : S24) (s : Int) (A : Option Addr) (c : Nat) (d : Int) (W : World), tsize x ≤ m →
  Aside0 (Kd.C k24 w0 A x.f2.length x.f2) → Aside0 (Below w0.heap.size w0 W) →
  Aside0 (W.heap[Be]? = some (.cells #[.func (.func 82) #[] #[.pointer (some ⟨Bs, 0, none⟩)]] 101 (0, 0))) →
  Aside0 (W.heap[Bd]? = some (.cells #[.func (.func 81) #[] #[.pointer (some ⟨Be, 0, none⟩), .pointer (some ⟨Bd, 0, none⟩)]] 101 (0, 0))) →
  Aside0 (W.heap[Bs]? = some (.cells #[.int .i64 s] 3 (0, 0))) →
  Calls Tryz.prog 81 #[.agg #[.int .i64 x.f0, .int .i64 x.f1, .slice A x.f2.length c], .int .i64 d, .pointer (some ⟨Be, 0, none⟩), .pointer (some ⟨Bd, 0, none⟩)] W fun e W' => e = .returned (.tuple #[]) ∧ W'.heap[Bs]? = some (.cells #[.int .i64 (foldT step_Size s x d)] 3 (0, 0)) ∧ W.grownBy W' (some Bs) := by
 intro m
 induction m with
 | zero => intro x s A c d W h; cases x; simp [tsize] at h
 | succ m ih =>
  intro x s A c d W hm HC HB HE HD HS
  have hel := blk_lt HE.out
  have hdl := blk_lt HD.out
  have ce := blk_alloc_cell HE.out (.cells #[.int .i64 x.f0, .int .i64 x.f1, .slice A x.f2.length c] 36 (0, 0))
  have HS0 := aq_ (blk_alloc HS.out (.cells #[.int .i64 x.f0, .int .i64 x.f1, .slice A x.f2.length c] 36 (0, 0)))
  have hml : x.f2.length ≤ 9223372036854775807 := HC.out.2.1
  have HM := aq_ hm
  have IH := aq_ ih
  clear hm ih
  go_enter Tryz.func81, Tryz.ntmps81
  go_wp2_with (first | (go_at_call 82; refine (each_Size Bs x s A c d _ HS0).mono ?_; rintro e w1 ⟨rfl, hs1, hg1⟩; have HG1 := aq_ (World.grownBy.trans (World.grownBy_alloc W (.cells #[.int .i64 x.f0, .int .i64 x.f1, .slice A x.f2.length c] 36 (0, 0)) (some Bs)) hg1); have HS1 := aq_ hs1; have k2 : w1.cell? ⟨W.heap.size, 2, none⟩ = some (.slice A x.f2.length c) := blk_cell ((hg1.block W.heap.size (blk_lt (blk_new W _)) (by have := blk_lt HS.out; intro e; injection e; omega)).trans (blk_new W _)) 2; clear hs1 hg1))
  go_loopw [15] (fun v15 wr => ∃ i : Nat, i ≤ x.f2.length ∧ v15 = .int .i64 i ∧ Aside0 (wr.heap[Bs]? = some (.cells #[.int .i64 (foldL step_Size (step_Size s x d) (x.f2.take i) (wrap64 (d + 1)))] 3 (0, 0))) ∧ Aside0 (W.grownBy wr (some Bs))) (fun v15 _ => x.f2.length - (intOf v15).toNat)
  case atStart => exact ⟨0, by omega, rfl, HS1, HG1⟩
  case round =>
   clear HS1 HG1
   obtain ⟨i, hi, rfl, HS1, HG1⟩ := hrel
   by_cases hlt : i < x.f2.length
   ·have HB1 := aq_ (HB.out.grown HG1.out HB.out.size (fun k e => by injection e; omega))
    obtain ⟨ad, A2, c2, e0, x0, x1, x2, hl2, hC2⟩ := at_T24 HC.out (i : Int) (by omega) (by omega)
    subst e0
    replace x0 := (HB1.out.cell (World.block_lt_of_cell? w0 _ x0)).trans x0
    replace x1 := (HB1.out.cell (World.block_lt_of_cell? w0 _ x1)).trans x1
    replace x2 := (HB1.out.cell (World.block_lt_of_cell? w0 _ x2)).trans x2
    rw [Int.toNat_natCast] at x0 x1 x2
    have HT := aq_ (rdT_take x.f2 hlt)
    have HZ := aq_ (rdT_size x hlt)
    obtain ⟨y, hy⟩ : ∃ y, y = rd_T24 x.f2 (i : Int) := ⟨_, rfl⟩
    rw [← hy] at x0 x1 x2 hl2 hC2 HT HZ
    have HC2 := aq_ hC2
    clear hy hC2 hl2
    have hE1 := (HG1.out.block Be hel (by intro e; injection e; omega)).trans HE.out
    have hD1 := (HG1.out.block Bd hdl (by intro e; injection e; omega)).trans HD.out
    have cd := blk_alloc_cell hD1 (.cells #[.int .i64 y.f0, .int .i64 y.f1, .slice A2 y.f2.length c2] 36 (0, 0))
    have HE2 := aq_ (blk_alloc hE1 (.cells #[.int .i64 y.f0, .int .i64 y.f1, .slice A2 y.f2.length c2] 36 (0, 0)))
    have HD2 := aq_ (blk_alloc hD1 (.cells #[.int .i64 y.f0, .int .i64 y.f1, .slice A2 y.f2.length c2] 36 (0, 0)))
    have HS2 := aq_ (blk_alloc HS1.out (.cells #[.int .i64 y.f0, .int .i64 y.f1, .slice A2 y.f2.length c2] 36 (0, 0)))
    have HB2 := aq_ (below_alloc HB1.out (.cells #[.int .i64 y.f0, .int .i64 y.f1, .slice A2 y.f2.length c2] 36 (0, 0)))
    clear hE1 hD1
    go_wp2_with (first | (go_at_call 81; refine (IH.out y _ A2 c2 (wrap64 (d + 1)) _ (by have := HZ.out; have := HM.out; omega) HC2 HB2 HE2 HD2 HS2).mono ?_; rintro e w2 ⟨rfl, hs2, hg2⟩; have HS3 := aq_ hs2; have HG3 := aq_ (World.grownBy.trans HG1.out (World.grownBy.trans (World.grownBy_alloc wr _ (some Bs)) hg2)); clear hs2 hg2))
    go_roundw
    case rel => exact ⟨i + 1, by omega, by go_num, ⟨by rw [HT.out, foldL_snoc]; exact HS3.out⟩, HG3⟩
    case measure => simp [intOf]; omega
   ·obtain rfl : i = x.f2.length := by omega
    have hS := HS1.out
    rw [List.take_length] at hS
    have HF := aq_ hS
    clear hS
    go_wp2
    go_end0
    refine ⟨rfl, ?_, HG1.out⟩
    rw [foldT_eq]; exact HF.out
set_option maxHeartbeats 1000000 in
set_option maxRecDepth 100000 in
theorem walk_Size (x : S24) (s : Int) (A : Option Addr) (c : Nat) (Bs : Nat) (w0 w : World) (HC : Aside0 (Kd.C k24 w0 A x.f2.length x.f2)) (HB : Aside0 (Below w0.heap.size w0 w)) (hBs : w0.heap.size ≤ Bs) (HS : Aside0 (w.heap[Bs]? = some (.cells #[.int .i64 s] 3 (0, 0)))) :
  Calls Tryz.prog 57 #[.agg #[.int .i64 x.f0, .int .i64 x.f1, .slice A x.f2.length c], .func (.func 82) #[] #[.pointer (some ⟨Bs, 0, none⟩)]] w fun e W' => e = .returned (.tuple #[]) ∧ W'.heap[Bs]? = some (.cells #[.int .i64 (foldT step_Size s x 1)] 3 (0, 0)) ∧ w.grownBy W' (some Bs) := by
 have hsl := blk_lt HS.out
 go_enter Tryz.func57, Tryz.ntmps57
 go_wp2_with (first | (go_at_call 81; refine (down_Size w0 (w.heap.size + 1) (w.heap.size + 1 + 1) Bs hBs (by omega) (by omega) (tsize x) x s A c 1 _ (Nat.le_refl _) HC ?HB4 ?HE4 ?HD4 ?HS4).mono ?_; (case HB4 => exact ⟨below_alloc (below_alloc (below_alloc HB.out _) _) _⟩); (case HE4 => exact ⟨(three_blocks w _ _ _).1⟩); (case HD4 => exact ⟨(three_blocks w _ _ _).2⟩); (case HS4 => exact ⟨blk_alloc (blk_alloc (blk_alloc HS.out _) _) _⟩); rintro e w1 ⟨rfl, hs1, hg1⟩; have HS1 := aq_ hs1; have HG1 := aq_ (World.grownBy.trans (grown_of_below (below_alloc (below_alloc (below_alloc (Below.refl w.heap.size w) _) _) _) (some Bs)) hg1); clear hs1 hg1))
 go_end0
 exact ⟨rfl, HS1.out, HG1.out⟩
def nodeB (k n : Int) (l : Nat) : Bool := if k = 0 ∨ k = 1 then decide (0 ≤ n) && decide (l = 0) else if k = 2 ∨ k = 3 then decide (n = 0) && decide (l = 2) else false
set_option maxHeartbeats 400000 in
set_option maxRecDepth 100000 in
theorem node_calls (k n : Int) (A : Option Addr) (m c : Nat) (W : World) :
  Calls Tryz.prog 59 #[.agg #[.int .i64 k, .int .i64 n, .slice A m c]] W fun e W' => e = .returned (.bool (nodeB k n m)) ∧ Below W.heap.size W W' := by
 have HB := aq_ (below_alloc (Below.refl W.heap.size W) (.cells #[.int .i64 k, .int .i64 n, .slice A m c] 36 (0, 0)))
 by_cases h01 : k = 0 ∨ k = 1
 ·have e : nodeB k n m = (decide (0 ≤ n) && decide (m = 0)) := if_pos h01
  rw [e]
  clear e
  rcases h01 with rfl | rfl
  all_goals
   by_cases hn : 0 ≤ n
   ·rw [decide_eq_true hn, Bool.true_and]
    go_enter Tryz.func59, Tryz.ntmps59
    go_wp2
    go_ret
    exact ⟨by simp; rw [Bool.eq_iff_iff, beq_iff_eq, decide_eq_true_iff]; omega, HB.out⟩
   ·have hn2 : n < 0 := by omega
    rw [decide_eq_false hn, Bool.false_and]
    clear hn
    go_enter Tryz.func59, Tryz.ntmps59
    go_wp2
    go_ret
    exact ⟨rfl, HB.out⟩
 ·by_cases h23 : k = 2 ∨ k = 3
  ·have e : nodeB k n m = (decide (n = 0) && decide (m = 2)) := (if_neg h01).trans (if_pos h23)
   rw [e]
   clear e h01
   rcases h23 with rfl | rfl
   all_goals
    by_cases hn : n = 0
    ·subst hn
     rw [decide_eq_true rfl, Bool.true_and]
     go_enter Tryz.func59, Tryz.ntmps59
     go_wp2
     go_ret
     exact ⟨by simp; rw [Bool.eq_iff_iff, beq_iff_eq, decide_eq_true_iff]; omega, HB.out⟩
    ·rw [decide_eq_false hn, Bool.false_and]
     have hn2 : (n == 0) = false := beq_eq_false_iff_ne.mpr hn
     clear hn
     go_enter Tryz.func59, Tryz.ntmps59
     go_wp2
     go_ret
     exact ⟨rfl, HB.out⟩
  ·have e : nodeB k n m = false := (if_neg h01).trans (if_neg h23)
   rw [e]
   clear e
   have g0 : (k == 0) = false := beq_eq_false_iff_ne.mpr (fun h => h01 (Or.inl h))
   have g1 : (k == 1) = false := beq_eq_false_iff_ne.mpr (fun h => h01 (Or.inr h))
   have g2 : (k == 2) = false := beq_eq_false_iff_ne.mpr (fun h => h23 (Or.inl h))
   have g3 : (k == 3) = false := beq_eq_false_iff_ne.mpr (fun h => h23 (Or.inr h))
   clear h01 h23
   go_enter Tryz.func59, Tryz.ntmps59
   go_wp2
   go_ret
   exact ⟨rfl, HB.out⟩
def step_May (s : Bool) (x : S24) (d : Int) : Bool := s && nodeB x.f0 x.f1 x.f2.length && decide (d ≤ 12)
set_option maxHeartbeats 400000 in
set_option maxRecDepth 100000 in
theorem each_May (Bs : Nat) (x : S24) (s : Bool) (A : Option Addr) (c : Nat) (d : Int) (W : World) (HS : Aside0 (W.heap[Bs]? = some (.cells #[.bool s] 4 (0, 0)))) :
  Calls Tryz.prog 58 #[.agg #[.int .i64 x.f0, .int .i64 x.f1, .slice A x.f2.length c], .int .i64 d, .pointer (some ⟨Bs, 0, none⟩)] W fun e W' => e = .returned (.tuple #[]) ∧ W'.heap[Bs]? = some (.cells #[.bool (step_May s x d)] 4 (0, 0)) ∧ W.grownBy W' (some Bs) := by
 have b1 := blk_alloc HS.out (.cells #[.int .i64 x.f0, .int .i64 x.f1, .slice A x.f2.length c] 36 (0, 0))
 have c1 := blk_cell b1 0
 have f1 := blk_frozen b1 0
 have B1 := aq_ b1
 clear b1
 cases s with
 | false =>
  rw [show step_May false x d = false by simp [step_May]]
  go_enter Tryz.func58, Tryz.ntmps58
  go_wp2
  go_end0
  exact ⟨rfl, blk_put B1.out 0 _ rfl, World.grownBy.trans (World.grownBy_alloc W _ _) (grownBy_setCell' _ _ _)⟩
 | true =>
  cases hn : nodeB x.f0 x.f1 x.f2.length with
  | false =>
   rw [show step_May true x d = false by simp [step_May, hn]]
   have HN := aq_ hn
   clear hn
   go_enter Tryz.func58, Tryz.ntmps58
   go_wp2_with (first | (go_at_call 59; refine (node_calls x.f0 x.f1 A x.f2.length c _).mono ?_; rw [HN.out]; rintro e w1 ⟨rfl, hb⟩; have b2 := blk_below B1.out hb; have c2 := blk_cell b2 0; have f2 := blk_frozen b2 0; have B2 := aq_ b2; have HG := aq_ (World.grownBy.trans (World.grownBy_alloc W _ (some Bs)) (grown_of_below hb (some Bs))); clear b2 hb))
   go_end0
   exact ⟨rfl, blk_put B2.out 0 _ rfl, World.grownBy.trans HG.out (grownBy_setCell' _ _ _)⟩
  | true =>
   rw [show step_May true x d = decide (d ≤ 12) by simp [step_May, hn]]
   have HN := aq_ hn
   clear hn
   go_enter Tryz.func58, Tryz.ntmps58
   go_wp2_with (first | (go_at_call 59; refine (node_calls x.f0 x.f1 A x.f2.length c _).mono ?_; rw [HN.out]; rintro e w1 ⟨rfl, hb⟩; have b2 := blk_below B1.out hb; have c2 := blk_cell b2 0; have f2 := blk_frozen b2 0; have B2 := aq_ b2; have HG := aq_ (World.grownBy.trans (World.grownBy_alloc W _ (some Bs)) (grown_of_below hb (some Bs))); clear b2 hb))
   go_end0
   exact ⟨rfl, blk_put B2.out 0 _ rfl, World.grownBy.trans HG.out (grownBy_setCell' _ _ _)⟩
set_option maxHeartbeats 1000000 in
set_option maxRecDepth 100000 in
theorem down_May (w0 : World) (Be Bd Bs : Nat) (hBs : w0.heap.size ≤ Bs) (hbe : Be ≠ Bs) (hbd : Bd ≠ Bs) : ∀ (m : Nat) (x : S24) (s : Bool) (A : Option Addr) (c : Nat) (d : Int) (W : World), tsize x ≤ m →
  Aside0 (Kd.C k24 w0 A x.f2.length x.f2) → Aside0 (Below w0.heap.size w0 W) →
  Aside0 (W.heap[Be]? = some (.cells #[.func (.func 58) #[] #[.pointer (some ⟨Bs, 0, none⟩)]] 101 (0, 0))) →
  Aside0 (W.heap[Bd]? = some (.cells #[.func (.func 81) #[] #[.pointer (some ⟨Be, 0, none⟩), .pointer (some ⟨Bd, 0, none⟩)]] 101 (0, 0))) →
  Aside0 (W.heap[Bs]? = some (.cells #[.bool s] 4 (0, 0))) →
  Calls Tryz.prog 81 #[.agg #[.int .i64 x.f0, .int .i64 x.f1, .slice A x.f2.length c], .int .i64 d, .pointer (some ⟨Be, 0, none⟩), .pointer (some ⟨Bd, 0, none⟩)] W fun e W' => e = .returned (.tuple #[]) ∧ W'.heap[Bs]? = some (.cells #[.bool (foldT step_May s x d)] 4 (0, 0)) ∧ W.grownBy W' (some Bs) := by
 intro m
 induction m with
 | zero => intro x s A c d W h; cases x; simp [tsize] at h
 | succ m ih =>
  intro x s A c d W hm HC HB HE HD HS
  have hel := blk_lt HE.out
  have hdl := blk_lt HD.out
  have ce := blk_alloc_cell HE.out (.cells #[.int .i64 x.f0, .int .i64 x.f1, .slice A x.f2.length c] 36 (0, 0))
  have HS0 := aq_ (blk_alloc HS.out (.cells #[.int .i64 x.f0, .int .i64 x.f1, .slice A x.f2.length c] 36 (0, 0)))
  have hml : x.f2.length ≤ 9223372036854775807 := HC.out.2.1
  have HM := aq_ hm
  have IH := aq_ ih
  clear hm ih
  go_enter Tryz.func81, Tryz.ntmps81
  go_wp2_with (first | (go_at_call 58; refine (each_May Bs x s A c d _ HS0).mono ?_; rintro e w1 ⟨rfl, hs1, hg1⟩; have HG1 := aq_ (World.grownBy.trans (World.grownBy_alloc W (.cells #[.int .i64 x.f0, .int .i64 x.f1, .slice A x.f2.length c] 36 (0, 0)) (some Bs)) hg1); have HS1 := aq_ hs1; have k2 : w1.cell? ⟨W.heap.size, 2, none⟩ = some (.slice A x.f2.length c) := blk_cell ((hg1.block W.heap.size (blk_lt (blk_new W _)) (by have := blk_lt HS.out; intro e; injection e; omega)).trans (blk_new W _)) 2; clear hs1 hg1))
  go_loopw [15] (fun v15 wr => ∃ i : Nat, i ≤ x.f2.length ∧ v15 = .int .i64 i ∧ Aside0 (wr.heap[Bs]? = some (.cells #[.bool (foldL step_May (step_May s x d) (x.f2.take i) (wrap64 (d + 1)))] 4 (0, 0))) ∧ Aside0 (W.grownBy wr (some Bs))) (fun v15 _ => x.f2.length - (intOf v15).toNat)
  case atStart => exact ⟨0, by omega, rfl, HS1, HG1⟩
  case round =>
   clear HS1 HG1
   obtain ⟨i, hi, rfl, HS1, HG1⟩ := hrel
   by_cases hlt : i < x.f2.length
   ·have HB1 := aq_ (HB.out.grown HG1.out HB.out.size (fun k e => by injection e; omega))
    obtain ⟨ad, A2, c2, e0, x0, x1, x2, hl2, hC2⟩ := at_T24 HC.out (i : Int) (by omega) (by omega)
    subst e0
    replace x0 := (HB1.out.cell (World.block_lt_of_cell? w0 _ x0)).trans x0
    replace x1 := (HB1.out.cell (World.block_lt_of_cell? w0 _ x1)).trans x1
    replace x2 := (HB1.out.cell (World.block_lt_of_cell? w0 _ x2)).trans x2
    rw [Int.toNat_natCast] at x0 x1 x2
    have HT := aq_ (rdT_take x.f2 hlt)
    have HZ := aq_ (rdT_size x hlt)
    obtain ⟨y, hy⟩ : ∃ y, y = rd_T24 x.f2 (i : Int) := ⟨_, rfl⟩
    rw [← hy] at x0 x1 x2 hl2 hC2 HT HZ
    have HC2 := aq_ hC2
    clear hy hC2 hl2
    have hE1 := (HG1.out.block Be hel (by intro e; injection e; omega)).trans HE.out
    have hD1 := (HG1.out.block Bd hdl (by intro e; injection e; omega)).trans HD.out
    have cd := blk_alloc_cell hD1 (.cells #[.int .i64 y.f0, .int .i64 y.f1, .slice A2 y.f2.length c2] 36 (0, 0))
    have HE2 := aq_ (blk_alloc hE1 (.cells #[.int .i64 y.f0, .int .i64 y.f1, .slice A2 y.f2.length c2] 36 (0, 0)))
    have HD2 := aq_ (blk_alloc hD1 (.cells #[.int .i64 y.f0, .int .i64 y.f1, .slice A2 y.f2.length c2] 36 (0, 0)))
    have HS2 := aq_ (blk_alloc HS1.out (.cells #[.int .i64 y.f0, .int .i64 y.f1, .slice A2 y.f2.length c2] 36 (0, 0)))
    have HB2 := aq_ (below_alloc HB1.out (.cells #[.int .i64 y.f0, .int .i64 y.f1, .slice A2 y.f2.length c2] 36 (0, 0)))
    clear hE1 hD1
    go_wp2_with (first | (go_at_call 81; refine (IH.out y _ A2 c2 (wrap64 (d + 1)) _ (by have := HZ.out; have := HM.out; omega) HC2 HB2 HE2 HD2 HS2).mono ?_; rintro e w2 ⟨rfl, hs2, hg2⟩; have HS3 := aq_ hs2; have HG3 := aq_ (World.grownBy.trans HG1.out (World.grownBy.trans (World.grownBy_alloc wr _ (some Bs)) hg2)); clear hs2 hg2))
    go_roundw
    case rel => exact ⟨i + 1, by omega, by go_num, ⟨by rw [HT.out, foldL_snoc]; exact HS3.out⟩, HG3⟩
    case measure => simp [intOf]; omega
   ·obtain rfl : i = x.f2.length := by omega
    have hS := HS1.out
    rw [List.take_length] at hS
    have HF := aq_ hS
    clear hS
    go_wp2
    go_end0
    refine ⟨rfl, ?_, HG1.out⟩
    rw [foldT_eq]; exact HF.out
set_option maxHeartbeats 1000000 in
set_option maxRecDepth 100000 in
theorem walk_May (x : S24) (s : Bool) (A : Option Addr) (c : Nat) (Bs : Nat) (w0 w : World) (HC : Aside0 (Kd.C k24 w0 A x.f2.length x.f2)) (HB : Aside0 (Below w0.heap.size w0 w)) (hBs : w0.heap.size ≤ Bs) (HS : Aside0 (w.heap[Bs]? = some (.cells #[.bool s] 4 (0, 0)))) :
  Calls Tryz.prog 57 #[.agg #[.int .i64 x.f0, .int .i64 x.f1, .slice A x.f2.length c], .func (.func 58) #[] #[.pointer (some ⟨Bs, 0, none⟩)]] w fun e W' => e = .returned (.tuple #[]) ∧ W'.heap[Bs]? = some (.cells #[.bool (foldT step_May s x 1)] 4 (0, 0)) ∧ w.grownBy W' (some Bs) := by
 have hsl := blk_lt HS.out
 go_enter Tryz.func57, Tryz.ntmps57
 go_wp2_with (first | (go_at_call 81; refine (down_May w0 (w.heap.size + 1) (w.heap.size + 1 + 1) Bs hBs (by omega) (by omega) (tsize x) x s A c 1 _ (Nat.le_refl _) HC ?HB4 ?HE4 ?HD4 ?HS4).mono ?_; (case HB4 => exact ⟨below_alloc (below_alloc (below_alloc HB.out _) _) _⟩); (case HE4 => exact ⟨(three_blocks w _ _ _).1⟩); (case HD4 => exact ⟨(three_blocks w _ _ _).2⟩); (case HS4 => exact ⟨blk_alloc (blk_alloc (blk_alloc HS.out _) _) _⟩); rintro e w1 ⟨rfl, hs1, hg1⟩; have HS1 := aq_ hs1; have HG1 := aq_ (World.grownBy.trans (grown_of_below (below_alloc (below_alloc (below_alloc (Below.refl w.heap.size w) _) _) _) (some Bs)) hg1); clear hs1 hg1))
 go_end0
 exact ⟨rfl, HS1.out, HG1.out⟩
def term_Size.f (a0_0 : Int) (a0_1 : Int) (l0_2 : List (S24)) : Option (Int) := some (foldT step_Size 0 ⟨a0_0, a0_1, l0_2⟩ 1)
set_option maxHeartbeats 400000 in
set_option maxRecDepth 100000 in
theorem term_Size.calls (a0_0 : Int) (a0_1 : Int) (A0_2 : Option Addr) (c0_2 : Nat) (l0_2 : List (S24)) (r : Int) (w : World) (hr0_2 : Kd.C k24 w A0_2 l0_2.length l0_2) (hc0_2 : l0_2.length ≤ c0_2) (h : term_Size.f a0_0 a0_1 l0_2 = some r) :
  Calls Tryz.prog 60 #[.agg #[.int .i64 a0_0, .int .i64 a0_1, .slice A0_2 l0_2.length c0_2]] w fun e w' => e = .returned (.int .i64 r) ∧ Below w.heap.size w w' := by
 have HR := aq_ hr0_2
 have H := aq_ (Option.some.inj h)
 have b2 := blk_new (w.alloc (.cells #[.int .i64 a0_0, .int .i64 a0_1, .slice A0_2 l0_2.length c0_2] 36 (0, 0))) (.cells #[.int .i64 0] 3 (0, 0))
 rw [show (w.alloc (.cells #[.int .i64 a0_0, .int .i64 a0_1, .slice A0_2 l0_2.length c0_2] 36 (0, 0))).heap.size = w.heap.size + 1 from Array.size_push _] at b2
 have B2 := aq_ b2
 have HB := aq_ (below_alloc (below_alloc (Below.refl w.heap.size w) (.cells #[.int .i64 a0_0, .int .i64 a0_1, .slice A0_2 l0_2.length c0_2] 36 (0, 0))) (.cells #[.int .i64 0] 3 (0, 0)))
 clear hr0_2 hc0_2 h b2
 go_enter Tryz.func60, Tryz.ntmps60
 go_wp2_with (first | (go_at_call 57; refine (walk_Size ⟨a0_0, a0_1, l0_2⟩ 0 A0_2 c0_2 (w.heap.size + 1) w _ HR HB (by omega) B2).mono ?_; rintro e w1 ⟨rfl, hs, hg⟩; have cs := blk_cell hs 0; have HF := aq_ (HB.out.grown hg HB.out.size (fun k e => by injection e; omega)); clear hs hg))
 go_ret
 exact ⟨by rw [← H.out]; rfl, HF.out⟩
def tmayB (x : S24) : Bool := foldT step_May true x 1
def term_May.f (a0_0 : Int) (a0_1 : Int) (l0_2 : List (S24)) : Option (Bool) := some (tmayB ⟨a0_0, a0_1, l0_2⟩ && decide (foldT step_Size 0 ⟨a0_0, a0_1, l0_2⟩ 1 ≤ 60))
set_option maxHeartbeats 400000 in
set_option maxRecDepth 100000 in
theorem term_May.calls (a0_0 : Int) (a0_1 : Int) (A0_2 : Option Addr) (c0_2 : Nat) (l0_2 : List (S24)) (r : Bool) (w : World) (hr0_2 : Kd.C k24 w A0_2 l0_2.length l0_2) (hc0_2 : l0_2.length ≤ c0_2) (h : term_May.f a0_0 a0_1 l0_2 = some r) :
  Calls Tryz.prog 26 #[.agg #[.int .i64 a0_0, .int .i64 a0_1, .slice A0_2 l0_2.length c0_2]] w fun e w' => e = .returned (.bool r) ∧ Below w.heap.size w w' := by
 have HR := aq_ hr0_2
 have HC := aq_ hc0_2
 have hr := Option.some.inj h
 obtain ⟨b, hb⟩ : ∃ b, b = tmayB ⟨a0_0, a0_1, l0_2⟩ := ⟨_, rfl⟩
 obtain ⟨z, hz⟩ : ∃ z, z = foldT step_Size 0 ⟨a0_0, a0_1, l0_2⟩ 1 := ⟨_, rfl⟩
 rw [← hb, ← hz] at hr
 have HZ := aq_ (show term_Size.f a0_0 a0_1 l0_2 = some z by rw [hz]; rfl)
 have HBB := aq_ hb
 have b2 := blk_new (w.alloc (.cells #[.int .i64 a0_0, .int .i64 a0_1, .slice A0_2 l0_2.length c0_2] 36 (0, 0))) (.cells #[.bool true] 4 (0, 0))
 have b1 := blk_alloc (blk_new w (.cells #[.int .i64 a0_0, .int .i64 a0_1, .slice A0_2 l0_2.length c0_2] 36 (0, 0))) (.cells #[.bool true] 4 (0, 0))
 rw [show (w.alloc (.cells #[.int .i64 a0_0, .int .i64 a0_1, .slice A0_2 l0_2.length c0_2] 36 (0, 0))).heap.size = w.heap.size + 1 from Array.size_push _] at b2
 have B1 := aq_ b1
 have B2 := aq_ b2
 have HB := aq_ (below_alloc (below_alloc (Below.refl w.heap.size w) (.cells #[.int .i64 a0_0, .int .i64 a0_1, .slice A0_2 l0_2.length c0_2] 36 (0, 0))) (.cells #[.bool true] 4 (0, 0)))
 clear hr0_2 hc0_2 h b2 b1 hb hz
 cases b with
 | false =>
  rw [Bool.false_and] at hr
  subst hr
  go_enter Tryz.func26, Tryz.ntmps26
  go_wp2_with (first | (go_at_call 57; refine (walk_May ⟨a0_0, a0_1, l0_2⟩ true A0_2 c0_2 (w.heap.size + 1) w _ HR HB (by omega) B2).mono ?_; rintro e w1 ⟨rfl, hs, hg⟩; rw [show foldT step_May true ⟨a0_0, a0_1, l0_2⟩ 1 = false from HBB.out.symm] at hs; have cs := blk_cell hs 0; have HF := aq_ (HB.out.grown hg HB.out.size (fun k e => by injection e; omega)); clear hs hg))
  go_ret
  exact ⟨rfl, HF.out⟩
 | true =>
  rw [Bool.true_and] at hr
  subst hr
  go_enter Tryz.func26, Tryz.ntmps26
  go_wp2_with (first | (go_at_call 57; refine (walk_May ⟨a0_0, a0_1, l0_2⟩ true A0_2 c0_2 (w.heap.size + 1) w _ HR HB (by omega) B2).mono ?_; rintro e w1 ⟨rfl, hs, hg⟩; rw [show foldT step_May true ⟨a0_0, a0_1, l0_2⟩ 1 = true from HBB.out.symm] at hs; have cs := blk_cell hs 0; have hb1 := (hg.block w.heap.size (blk_lt B1.out) (by intro e; injection e; omega)).trans B1.out; have x0 := blk_cell hb1 0; have x1 := blk_cell hb1 1; have x2 := blk_cell hb1 2; have HF := aq_ (HB.out.grown hg HB.out.size (fun k e => by injection e; omega)); clear hs hg hb1) | (go_at_call 60; refine (term_Size.calls a0_0 a0_1 A0_2 c0_2 l0_2 z _ (Kd.C_below HR.out HF.out) HC.out HZ.out).mono ?_; rintro e w2 ⟨rfl, hb⟩; have HF2 := aq_ (below_step HF.out hb); clear hb))
  go_ret
  exact ⟨rfl, HF2.out⟩
end Go.Proofs.YtdinphnljokigaaGreat.P
end
