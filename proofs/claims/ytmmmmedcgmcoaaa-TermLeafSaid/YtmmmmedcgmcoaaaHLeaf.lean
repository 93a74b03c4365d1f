/- By hand: the law TermLeaf's walk, in four cases. -/
import Derived.Test.YtmmmmedcgmcoaaaHAwake
import Derived.Test.YtmmmmedcgmcoaaaHTermP
namespace Go.Proofs.Ytmmmmedcgmcoaaa.P
open Go.RowKit Go.Proofs.YtmmmmedcgmcoaaaW.PrintWords Go.Proofs.YtmmmmedcgmcoaaaW.PrintLast Go.Proofs.YtmmmmedcgmcoaaaW.PrintMore
set_option linter.unusedVariables false
set_option linter.unusedSimpArgs false
theorem two_allocs (w : World) (o1 o2 : Obj) : ((w.alloc o1).alloc o2).heap[w.heap.size]? = some o1 ∧ ((w.alloc o1).alloc o2).heap[w.heap.size + 1]? = some o2 := by
  have s1 : (w.alloc o1).heap.size = w.heap.size + 1 := Array.size_push _
  have b2 := World.alloc_heap_new (w.alloc o1) o2
  rw [s1] at b2
  exact ⟨blk_alloc (World.alloc_heap_new w o1) o2, b2⟩
theorem leaf_steps (k n : Int) : stepsL ⟨k, n, []⟩ = [⟨k, n, []⟩] := stepsL_leaf _ (by simp)
theorem leaf_out (k n : Int) : outL ⟨k, n, []⟩ = [n] := by unfold outL; rw [leaf_steps]; rfl
theorem leaf_same (a b n m : Int) : sameT ⟨a, n, []⟩ ⟨b, m, []⟩ = (decide (a = b) && decide (n = m)) := by
  by_cases h1 : a = b <;> by_cases h2 : n = m <;> simp [sameT, sameLs, h1, h2]
theorem unrow_word (n : Int) : term_Unrow.f 0 n [] = some (if 0 ≤ n then ([n], true) else ([], false)) := by
  unfold term_Unrow.f uL uB rowR
  rw [leaf_steps, leaf_out]
  by_cases h : 0 ≤ n <;> simp [okRow, h, rowT, word, leaf_same]
theorem unrow_key (n : Int) : term_Unrow.f 1 n [] = some ([], false) := by
  unfold term_Unrow.f uL uB rowR
  rw [leaf_steps, leaf_out]
  by_cases h : 0 ≤ n <;> simp [okRow, h, rowT, word, leaf_same]
theorem leaf_may (k n : Int) (hk : k = 0 ∨ k = 1) : term_May.f k n [] = some (decide (0 ≤ n)) := by
  rcases hk with rfl | rfl <;> by_cases h : 0 ≤ n <;> simp [term_May.f, mayB, nodeB, step_May, step_Size, foldT, foldL, wrap64, h]
theorem leaf_size (k n : Int) : term_Size.f k n [] = some 1 := by simp [term_Size.f, step_Size, foldT, foldL, wrap64]
theorem leaf_depth (k n : Int) : term_Depth.f k n [] = some 1 := by simp [term_Depth.f, step_Depth, foldT, foldL, wrap64]
theorem unrow_leaf (k n : Int) (r1 : List Int) (r2 : Bool) (w : World) (h : term_Unrow.f k n [] = some (r1, r2)) :
    Calls Try.prog 13 #[.agg #[.int .i64 k, .int .i64 n, .slice none 0 0]] w fun e w' => ∃ v0_ : Value, e = .returned (.tuple #[v0_, .bool r2]) ∧ Kd.R (Kd.int .i64) 3 w' w.heap.size (fun _ => True) v0_ r1 ∧ Below w.heap.size w w' :=
  term_Unrow.calls k n none 0 [] r1 r2 w (Kd.C_nil _ _) (Nat.le_refl _) h
theorem may_leaf (k n : Int) (r : Bool) (w : World) (h : term_May.f k n [] = some r) :
    Calls Try.prog 23 #[.agg #[.int .i64 k, .int .i64 n, .slice none 0 0]] w fun e w' => e = .returned (.bool r) ∧ Below w.heap.size w w' :=
  term_May.calls k n none 0 [] r w (Kd.C_nil _ _) (Nat.le_refl _) h
theorem size_leaf (k n : Int) (r : Int) (w : World) (h : term_Size.f k n [] = some r) :
    Calls Try.prog 19 #[.agg #[.int .i64 k, .int .i64 n, .slice none 0 0]] w fun e w' => e = .returned (.int .i64 r) ∧ Below w.heap.size w w' :=
  term_Size.calls k n none 0 [] r w (Kd.C_nil _ _) (Nat.le_refl _) h
theorem depth_leaf (k n : Int) (r : Int) (w : World) (h : term_Depth.f k n [] = some r) :
    Calls Try.prog 21 #[.agg #[.int .i64 k, .int .i64 n, .slice none 0 0]] w fun e w' => e = .returned (.int .i64 r) ∧ Below w.heap.size w w' :=
  term_Depth.calls k n none 0 [] r w (Kd.C_nil _ _) (Nat.le_refl _) h
theorem same_leaf2 (k n k' n' : Int) (r : Bool) (w : World) (h : term_Same.f k n [] k' n' [] = some r) :
    Calls Try.prog 24 #[.agg #[.int .i64 k, .int .i64 n, .slice none 0 0], .agg #[.int .i64 k', .int .i64 n', .slice none 0 0]] w fun e w' => e = .returned (.bool r) ∧ Below w.heap.size w w' :=
  term_Same.calls k n none 0 [] k' n' none 0 [] r w (Kd.C_nil _ _) (Nat.le_refl _) (Kd.C_nil _ _) (Nat.le_refl _) h
set_option maxRecDepth 100000 in
set_option maxHeartbeats 8000000 in
theorem leaf_yy (n m : Int) (hn : 0 ≤ n) (hm : 0 ≤ m) (w : World) :
    Calls Try.prog 7 #[.int .i64 n, .int .i64 m] w fun e w' => e = .returned (.bool true) ∧ Below w.heap.size w w' := by
  have hmx : Try.prog.follows .mixedOrders = true := by kernel_rfl
  have F1 := Aside0.mk (show term_Unrow.f 0 n [] = some ([n], true) by rw [unrow_word]; simp [hn])
  have F2 := Aside0.mk (unrow_key m)
  have F3 := Aside0.mk (show term_May.f 0 n [] = some true by rw [leaf_may 0 n (Or.inl rfl)]; simp [hn])
  have F4 := Aside0.mk (show term_May.f 1 m [] = some true by rw [leaf_may 1 m (Or.inr rfl)]; simp [hm])
  have F5 := Aside0.mk (show term_Same.f 0 n [] 1 m [] = some false by unfold term_Same.f; rw [leaf_same]; simp)
  have F6 := Aside0.mk (leaf_size 0 n)
  have F7 := Aside0.mk (leaf_depth 1 m)
  have dn : decide (0 ≤ n) = true := by simp [hn]
  have dm : decide (0 ≤ m) = true := by simp [hm]
  clear hn hm
  go_enter Try.func7, Try.ntmps7
  go_upto_region 6 with (first
    | (go_at_call 9; (with_reducible refine (pelicanlaw05_awake.calls true _ rfl).mono ?_); rintro e w1 ⟨rfl, hb1⟩; have HB1 := Aside0.mk hb1; obtain ⟨t6, t7⟩ := two_allocs w1 (.cells #[.int .i64 0, .int .i64 n, .slice none 0 0] 24 (0, 0)) (.cells #[.int .i64 1, .int .i64 m, .slice none 0 0] 24 (0, 0)); have B6 := Aside0.mk t6; have B7 := Aside0.mk t7; obtain ⟨⟨k0, k1, k2⟩, j0, j1, j2⟩ := cells3 B6.out; obtain ⟨⟨k3, k4, k5⟩, j3, j4, j5⟩ := cells3 B7.out; clear hb1 t6 t7)
    | (go_at_call 13; (with_reducible refine (unrow_leaf 0 n _ _ _ F1.out).mono ?_); rintro e w2 ⟨v3, rfl, hR3, hb2⟩; have HR := Aside0.mk hR3; have HB2 := Aside0.mk hb2; clear k0 k1 k2 j0 j1 j2 k3 k4 k5 j3 j4 j5; have Y6 := Aside0.mk (blk_below B6.out hb2); have Y7 := Aside0.mk (blk_below B7.out hb2); obtain ⟨⟨k0, k1, k2⟩, j0, j1, j2⟩ := cells3 Y6.out; obtain ⟨⟨k3, k4, k5⟩, j3, j4, j5⟩ := cells3 Y7.out; clear hR3 hb2)
    | (go_at_call 13; (with_reducible refine (unrow_leaf 1 m _ _ _ F2.out).mono ?_); rintro e w3 ⟨v4, rfl, hR4, hb3⟩; have HB3 := Aside0.mk hb3; have X6 := Aside0.mk (blk_below Y6.out hb3); have X7 := Aside0.mk (blk_below Y7.out hb3); obtain ⟨A6, c6, rfl, hl6, hC6⟩ := Kd.R_reads (Kd.R_below HR.out hb3); have HC6 := Aside0.mk hC6; clear hR4 hb3 hl6 hC6))
  obtain ⟨ad, ea, e0⟩ := Kd.at_int HC6.out 0 (by omega) (by simp)
  subst ea
  replace e0 : w3.cell? (ad.add 0) = some (.int .i64 n) := e0
  rw [Addr.add_zero'] at e0
  have E0 := Aside0.mk e0
  clear e0
  have HBc := Aside0.mk (Below.refl w3.heap.size w3)
  have hA_ := HB1.out.trans ((below_alloc (below_alloc (Below.refl w1.heap.size w1) (.cells #[.int .i64 0, .int .i64 n, .slice none 0 0] 24 (0, 0))) (.cells #[.int .i64 1, .int .i64 m, .slice none 0 0] 24 (0, 0))).mono HB1.out.size)
  have hA2 := hA_.trans (HB2.out.mono hA_.size)
  have HW3 := Aside0.mk (hA2.trans (HB3.out.mono hA2.size))
  clear hA_ hA2 k0 k1 k2 j0 j1 j2 k3 k4 k5 j3 j4 j5
  obtain ⟨⟨k0, k1, k2⟩, j0, j1, j2⟩ := cells3 X6.out
  obtain ⟨⟨k3, k4, k5⟩, j3, j4, j5⟩ := cells3 X7.out
  go_wp2_with (first
    | (go_at_call 23; (with_reducible refine (may_leaf 0 n _ _ F3.out).mono ?_); rintro e w4 ⟨rfl, hb_⟩; have HBc := Aside0.mk (HBc.out.trans (hb_.mono HBc.out.size)); clear k0 k1 k2 j0 j1 j2 k3 k4 k5 j3 j4 j5; obtain ⟨⟨k0, k1, k2⟩, j0, j1, j2⟩ := cells3 (blk_below X6.out HBc.out); obtain ⟨⟨k3, k4, k5⟩, j3, j4, j5⟩ := cells3 (blk_below X7.out HBc.out); have d0 := (HBc.out.cell (World.block_lt_of_cell? w3 _ E0.out)).trans E0.out; clear hb_)
    | (go_at_call 23; (with_reducible refine (may_leaf 1 m _ _ F4.out).mono ?_); rintro e w5 ⟨rfl, hb_⟩; have HBc := Aside0.mk (HBc.out.trans (hb_.mono HBc.out.size)); clear k0 k1 k2 j0 j1 j2 k3 k4 k5 j3 j4 j5; obtain ⟨⟨k0, k1, k2⟩, j0, j1, j2⟩ := cells3 (blk_below X6.out HBc.out); obtain ⟨⟨k3, k4, k5⟩, j3, j4, j5⟩ := cells3 (blk_below X7.out HBc.out); have d0 := (HBc.out.cell (World.block_lt_of_cell? w3 _ E0.out)).trans E0.out; clear hb_)
    | (go_at_call 24; (with_reducible refine (same_leaf2 0 n 1 m _ _ F5.out).mono ?_); rintro e w6 ⟨rfl, hb_⟩; have HBc := Aside0.mk (HBc.out.trans (hb_.mono HBc.out.size)); clear k0 k1 k2 j0 j1 j2 k3 k4 k5 j3 j4 j5; obtain ⟨⟨k0, k1, k2⟩, j0, j1, j2⟩ := cells3 (blk_below X6.out HBc.out); obtain ⟨⟨k3, k4, k5⟩, j3, j4, j5⟩ := cells3 (blk_below X7.out HBc.out); have d0 := (HBc.out.cell (World.block_lt_of_cell? w3 _ E0.out)).trans E0.out; clear hb_)
    | (go_at_call 19; (with_reducible refine (size_leaf 0 n _ _ F6.out).mono ?_); rintro e w7 ⟨rfl, hb_⟩; have HBc := Aside0.mk (HBc.out.trans (hb_.mono HBc.out.size)); clear k0 k1 k2 j0 j1 j2 k3 k4 k5 j3 j4 j5; obtain ⟨⟨k0, k1, k2⟩, j0, j1, j2⟩ := cells3 (blk_below X6.out HBc.out); obtain ⟨⟨k3, k4, k5⟩, j3, j4, j5⟩ := cells3 (blk_below X7.out HBc.out); have d0 := (HBc.out.cell (World.block_lt_of_cell? w3 _ E0.out)).trans E0.out; clear hb_)
    | (go_at_call 21; (with_reducible refine (depth_leaf 1 m _ _ F7.out).mono ?_); rintro e w8 ⟨rfl, hb_⟩; have HBc := Aside0.mk (HBc.out.trans (hb_.mono HBc.out.size)); clear k0 k1 k2 j0 j1 j2 k3 k4 k5 j3 j4 j5; obtain ⟨⟨k0, k1, k2⟩, j0, j1, j2⟩ := cells3 (blk_below X6.out HBc.out); obtain ⟨⟨k3, k4, k5⟩, j3, j4, j5⟩ := cells3 (blk_below X7.out HBc.out); have d0 := (HBc.out.cell (World.block_lt_of_cell? w3 _ E0.out)).trans E0.out; clear hb_))
  all_goals go_wp2
  all_goals (try go_ret)
  all_goals first
    | exact ⟨rfl, HW3.out.trans (HBc.out.mono HW3.out.size)⟩
    | exact ⟨rfl, below_drew (HW3.out.trans (HBc.out.mono HW3.out.size))⟩
    | (refine ⟨?_, HW3.out.trans (HBc.out.mono HW3.out.size)⟩; simp; done)
    | (trace_state; sorry)
set_option maxRecDepth 100000 in
set_option maxHeartbeats 8000000 in
theorem leaf_yn (n m : Int) (hn : 0 ≤ n) (hm : ¬ 0 ≤ m) (w : World) :
    Calls Try.prog 7 #[.int .i64 n, .int .i64 m] w fun e w' => e = .returned (.bool true) ∧ Below w.heap.size w w' := by
  have hmx : Try.prog.follows .mixedOrders = true := by kernel_rfl
  have F1 := Aside0.mk (show term_Unrow.f 0 n [] = some ([n], true) by rw [unrow_word]; simp [hn])
  have F2 := Aside0.mk (unrow_key m)
  have F3 := Aside0.mk (show term_May.f 0 n [] = some true by rw [leaf_may 0 n (Or.inl rfl)]; simp [hn])
  have F4 := Aside0.mk (show term_May.f 1 m [] = some false by rw [leaf_may 1 m (Or.inr rfl)]; simp [hm])
  have F5 := Aside0.mk (show term_Same.f 0 n [] 1 m [] = some false by unfold term_Same.f; rw [leaf_same]; simp)
  have F6 := Aside0.mk (leaf_size 0 n)
  have F7 := Aside0.mk (leaf_depth 1 m)
  have dn : decide (0 ≤ n) = true := by simp [hn]
  have dm : decide (0 ≤ m) = false := by simp [hm]
  clear hn hm
  go_enter Try.func7, Try.ntmps7
  go_upto_region 6 with (first
    | (go_at_call 9; (with_reducible refine (pelicanlaw05_awake.calls true _ rfl).mono ?_); rintro e w1 ⟨rfl, hb1⟩; have HB1 := Aside0.mk hb1; obtain ⟨t6, t7⟩ := two_allocs w1 (.cells #[.int .i64 0, .int .i64 n, .slice none 0 0] 24 (0, 0)) (.cells #[.int .i64 1, .int .i64 m, .slice none 0 0] 24 (0, 0)); have B6 := Aside0.mk t6; have B7 := Aside0.mk t7; obtain ⟨⟨k0, k1, k2⟩, j0, j1, j2⟩ := cells3 B6.out; obtain ⟨⟨k3, k4, k5⟩, j3, j4, j5⟩ := cells3 B7.out; clear hb1 t6 t7)
    | (go_at_call 13; (with_reducible refine (unrow_leaf 0 n _ _ _ F1.out).mono ?_); rintro e w2 ⟨v3, rfl, hR3, hb2⟩; have HR := Aside0.mk hR3; have HB2 := Aside0.mk hb2; clear k0 k1 k2 j0 j1 j2 k3 k4 k5 j3 j4 j5; have Y6 := Aside0.mk (blk_below B6.out hb2); have Y7 := Aside0.mk (blk_below B7.out hb2); obtain ⟨⟨k0, k1, k2⟩, j0, j1, j2⟩ := cells3 Y6.out; obtain ⟨⟨k3, k4, k5⟩, j3, j4, j5⟩ := cells3 Y7.out; clear hR3 hb2)
    | (go_at_call 13; (with_reducible refine (unrow_leaf 1 m _ _ _ F2.out).mono ?_); rintro e w3 ⟨v4, rfl, hR4, hb3⟩; have HB3 := Aside0.mk hb3; have X6 := Aside0.mk (blk_below Y6.out hb3); have X7 := Aside0.mk (blk_below Y7.out hb3); obtain ⟨A6, c6, rfl, hl6, hC6⟩ := Kd.R_reads (Kd.R_below HR.out hb3); have HC6 := Aside0.mk hC6; clear hR4 hb3 hl6 hC6))
  obtain ⟨ad, ea, e0⟩ := Kd.at_int HC6.out 0 (by omega) (by simp)
  subst ea
  replace e0 : w3.cell? (ad.add 0) = some (.int .i64 n) := e0
  rw [Addr.add_zero'] at e0
  have E0 := Aside0.mk e0
  clear e0
  have HBc := Aside0.mk (Below.refl w3.heap.size w3)
  have hA_ := HB1.out.trans ((below_alloc (below_alloc (Below.refl w1.heap.size w1) (.cells #[.int .i64 0, .int .i64 n, .slice none 0 0] 24 (0, 0))) (.cells #[.int .i64 1, .int .i64 m, .slice none 0 0] 24 (0, 0))).mono HB1.out.size)
  have hA2 := hA_.trans (HB2.out.mono hA_.size)
  have HW3 := Aside0.mk (hA2.trans (HB3.out.mono hA2.size))
  clear hA_ hA2 k0 k1 k2 j0 j1 j2 k3 k4 k5 j3 j4 j5
  obtain ⟨⟨k0, k1, k2⟩, j0, j1, j2⟩ := cells3 X6.out
  obtain ⟨⟨k3, k4, k5⟩, j3, j4, j5⟩ := cells3 X7.out
  go_wp2_with (first
    | (go_at_call 23; (with_reducible refine (may_leaf 0 n _ _ F3.out).mono ?_); rintro e w4 ⟨rfl, hb_⟩; have HBc := Aside0.mk (HBc.out.trans (hb_.mono HBc.out.size)); clear k0 k1 k2 j0 j1 j2 k3 k4 k5 j3 j4 j5; obtain ⟨⟨k0, k1, k2⟩, j0, j1, j2⟩ := cells3 (blk_below X6.out HBc.out); obtain ⟨⟨k3, k4, k5⟩, j3, j4, j5⟩ := cells3 (blk_below X7.out HBc.out); have d0 := (HBc.out.cell (World.block_lt_of_cell? w3 _ E0.out)).trans E0.out; clear hb_)
    | (go_at_call 23; (with_reducible refine (may_leaf 1 m _ _ F4.out).mono ?_); rintro e w5 ⟨rfl, hb_⟩; have HBc := Aside0.mk (HBc.out.trans (hb_.mono HBc.out.size)); clear k0 k1 k2 j0 j1 j2 k3 k4 k5 j3 j4 j5; obtain ⟨⟨k0, k1, k2⟩, j0, j1, j2⟩ := cells3 (blk_below X6.out HBc.out); obtain ⟨⟨k3, k4, k5⟩, j3, j4, j5⟩ := cells3 (blk_below X7.out HBc.out); have d0 := (HBc.out.cell (World.block_lt_of_cell? w3 _ E0.out)).trans E0.out; clear hb_)
    | (go_at_call 24; (with_reducible refine (same_leaf2 0 n 1 m _ _ F5.out).mono ?_); rintro e w6 ⟨rfl, hb_⟩; have HBc := Aside0.mk (HBc.out.trans (hb_.mono HBc.out.size)); clear k0 k1 k2 j0 j1 j2 k3 k4 k5 j3 j4 j5; obtain ⟨⟨k0, k1, k2⟩, j0, j1, j2⟩ := cells3 (blk_below X6.out HBc.out); obtain ⟨⟨k3, k4, k5⟩, j3, j4, j5⟩ := cells3 (blk_below X7.out HBc.out); have d0 := (HBc.out.cell (World.block_lt_of_cell? w3 _ E0.out)).trans E0.out; clear hb_)
    | (go_at_call 19; (with_reducible refine (size_leaf 0 n _ _ F6.out).mono ?_); rintro e w7 ⟨rfl, hb_⟩; have HBc := Aside0.mk (HBc.out.trans (hb_.mono HBc.out.size)); clear k0 k1 k2 j0 j1 j2 k3 k4 k5 j3 j4 j5; obtain ⟨⟨k0, k1, k2⟩, j0, j1, j2⟩ := cells3 (blk_below X6.out HBc.out); obtain ⟨⟨k3, k4, k5⟩, j3, j4, j5⟩ := cells3 (blk_below X7.out HBc.out); have d0 := (HBc.out.cell (World.block_lt_of_cell? w3 _ E0.out)).trans E0.out; clear hb_)
    | (go_at_call 21; (with_reducible refine (depth_leaf 1 m _ _ F7.out).mono ?_); rintro e w8 ⟨rfl, hb_⟩; have HBc := Aside0.mk (HBc.out.trans (hb_.mono HBc.out.size)); clear k0 k1 k2 j0 j1 j2 k3 k4 k5 j3 j4 j5; obtain ⟨⟨k0, k1, k2⟩, j0, j1, j2⟩ := cells3 (blk_below X6.out HBc.out); obtain ⟨⟨k3, k4, k5⟩, j3, j4, j5⟩ := cells3 (blk_below X7.out HBc.out); have d0 := (HBc.out.cell (World.block_lt_of_cell? w3 _ E0.out)).trans E0.out; clear hb_))
  all_goals go_wp2
  all_goals (try go_ret)
  all_goals first
    | exact ⟨rfl, HW3.out.trans (HBc.out.mono HW3.out.size)⟩
    | exact ⟨rfl, below_drew (HW3.out.trans (HBc.out.mono HW3.out.size))⟩
    | (refine ⟨?_, HW3.out.trans (HBc.out.mono HW3.out.size)⟩; simp; done)
    | (trace_state; sorry)
set_option maxRecDepth 100000 in
set_option maxHeartbeats 8000000 in
theorem leaf_ny (n m : Int) (hn : ¬ 0 ≤ n) (hm : 0 ≤ m) (w : World) :
    Calls Try.prog 7 #[.int .i64 n, .int .i64 m] w fun e w' => e = .returned (.bool true) ∧ Below w.heap.size w w' := by
  have hmx : Try.prog.follows .mixedOrders = true := by kernel_rfl
  have F1 := Aside0.mk (show term_Unrow.f 0 n [] = some (([] : List Int), false) by rw [unrow_word]; simp [hn])
  have F2 := Aside0.mk (unrow_key m)
  have F3 := Aside0.mk (show term_May.f 0 n [] = some false by rw [leaf_may 0 n (Or.inl rfl)]; simp [hn])
  have F4 := Aside0.mk (show term_May.f 1 m [] = some true by rw [leaf_may 1 m (Or.inr rfl)]; simp [hm])
  have F5 := Aside0.mk (show term_Same.f 0 n [] 1 m [] = some false by unfold term_Same.f; rw [leaf_same]; simp)
  have F6 := Aside0.mk (leaf_size 0 n)
  have F7 := Aside0.mk (leaf_depth 1 m)
  have dn : decide (0 ≤ n) = false := by simp [hn]
  have dm : decide (0 ≤ m) = true := by simp [hm]
  clear hn hm
  go_enter Try.func7, Try.ntmps7
  go_upto_region 6 with (first
    | (go_at_call 9; (with_reducible refine (pelicanlaw05_awake.calls true _ rfl).mono ?_); rintro e w1 ⟨rfl, hb1⟩; have HB1 := Aside0.mk hb1; obtain ⟨t6, t7⟩ := two_allocs w1 (.cells #[.int .i64 0, .int .i64 n, .slice none 0 0] 24 (0, 0)) (.cells #[.int .i64 1, .int .i64 m, .slice none 0 0] 24 (0, 0)); have B6 := Aside0.mk t6; have B7 := Aside0.mk t7; obtain ⟨⟨k0, k1, k2⟩, j0, j1, j2⟩ := cells3 B6.out; obtain ⟨⟨k3, k4, k5⟩, j3, j4, j5⟩ := cells3 B7.out; clear hb1 t6 t7)
    | (go_at_call 13; (with_reducible refine (unrow_leaf 0 n _ _ _ F1.out).mono ?_); rintro e w2 ⟨v3, rfl, hR3, hb2⟩; have HR := Aside0.mk hR3; have HB2 := Aside0.mk hb2; clear k0 k1 k2 j0 j1 j2 k3 k4 k5 j3 j4 j5; have Y6 := Aside0.mk (blk_below B6.out hb2); have Y7 := Aside0.mk (blk_below B7.out hb2); obtain ⟨⟨k0, k1, k2⟩, j0, j1, j2⟩ := cells3 Y6.out; obtain ⟨⟨k3, k4, k5⟩, j3, j4, j5⟩ := cells3 Y7.out; clear hR3 hb2)
    | (go_at_call 13; (with_reducible refine (unrow_leaf 1 m _ _ _ F2.out).mono ?_); rintro e w3 ⟨v4, rfl, hR4, hb3⟩; have HB3 := Aside0.mk hb3; have X6 := Aside0.mk (blk_below Y6.out hb3); have X7 := Aside0.mk (blk_below Y7.out hb3); obtain ⟨A6, c6, rfl, hl6, hC6⟩ := Kd.R_reads (Kd.R_below HR.out hb3); have HC6 := Aside0.mk hC6; clear hR4 hb3 hl6 hC6))
  have HBc := Aside0.mk (Below.refl w3.heap.size w3)
  have hA_ := HB1.out.trans ((below_alloc (below_alloc (Below.refl w1.heap.size w1) (.cells #[.int .i64 0, .int .i64 n, .slice none 0 0] 24 (0, 0))) (.cells #[.int .i64 1, .int .i64 m, .slice none 0 0] 24 (0, 0))).mono HB1.out.size)
  have hA2 := hA_.trans (HB2.out.mono hA_.size)
  have HW3 := Aside0.mk (hA2.trans (HB3.out.mono hA2.size))
  clear hA_ hA2 k0 k1 k2 j0 j1 j2 k3 k4 k5 j3 j4 j5
  obtain ⟨⟨k0, k1, k2⟩, j0, j1, j2⟩ := cells3 X6.out
  obtain ⟨⟨k3, k4, k5⟩, j3, j4, j5⟩ := cells3 X7.out
  go_wp2_with (first
    | (go_at_call 23; (with_reducible refine (may_leaf 0 n _ _ F3.out).mono ?_); rintro e w4 ⟨rfl, hb_⟩; have HBc := Aside0.mk (HBc.out.trans (hb_.mono HBc.out.size)); clear k0 k1 k2 j0 j1 j2 k3 k4 k5 j3 j4 j5; obtain ⟨⟨k0, k1, k2⟩, j0, j1, j2⟩ := cells3 (blk_below X6.out HBc.out); obtain ⟨⟨k3, k4, k5⟩, j3, j4, j5⟩ := cells3 (blk_below X7.out HBc.out); clear hb_)
    | (go_at_call 23; (with_reducible refine (may_leaf 1 m _ _ F4.out).mono ?_); rintro e w5 ⟨rfl, hb_⟩; have HBc := Aside0.mk (HBc.out.trans (hb_.mono HBc.out.size)); clear k0 k1 k2 j0 j1 j2 k3 k4 k5 j3 j4 j5; obtain ⟨⟨k0, k1, k2⟩, j0, j1, j2⟩ := cells3 (blk_below X6.out HBc.out); obtain ⟨⟨k3, k4, k5⟩, j3, j4, j5⟩ := cells3 (blk_below X7.out HBc.out); clear hb_)
    | (go_at_call 24; (with_reducible refine (same_leaf2 0 n 1 m _ _ F5.out).mono ?_); rintro e w6 ⟨rfl, hb_⟩; have HBc := Aside0.mk (HBc.out.trans (hb_.mono HBc.out.size)); clear k0 k1 k2 j0 j1 j2 k3 k4 k5 j3 j4 j5; obtain ⟨⟨k0, k1, k2⟩, j0, j1, j2⟩ := cells3 (blk_below X6.out HBc.out); obtain ⟨⟨k3, k4, k5⟩, j3, j4, j5⟩ := cells3 (blk_below X7.out HBc.out); clear hb_)
    | (go_at_call 19; (with_reducible refine (size_leaf 0 n _ _ F6.out).mono ?_); rintro e w7 ⟨rfl, hb_⟩; have HBc := Aside0.mk (HBc.out.trans (hb_.mono HBc.out.size)); clear k0 k1 k2 j0 j1 j2 k3 k4 k5 j3 j4 j5; obtain ⟨⟨k0, k1, k2⟩, j0, j1, j2⟩ := cells3 (blk_below X6.out HBc.out); obtain ⟨⟨k3, k4, k5⟩, j3, j4, j5⟩ := cells3 (blk_below X7.out HBc.out); clear hb_)
    | (go_at_call 21; (with_reducible refine (depth_leaf 1 m _ _ F7.out).mono ?_); rintro e w8 ⟨rfl, hb_⟩; have HBc := Aside0.mk (HBc.out.trans (hb_.mono HBc.out.size)); clear k0 k1 k2 j0 j1 j2 k3 k4 k5 j3 j4 j5; obtain ⟨⟨k0, k1, k2⟩, j0, j1, j2⟩ := cells3 (blk_below X6.out HBc.out); obtain ⟨⟨k3, k4, k5⟩, j3, j4, j5⟩ := cells3 (blk_below X7.out HBc.out); clear hb_))
  all_goals go_wp2
  all_goals (try go_ret)
  all_goals first
    | exact ⟨rfl, HW3.out.trans (HBc.out.mono HW3.out.size)⟩
    | exact ⟨rfl, below_drew (HW3.out.trans (HBc.out.mono HW3.out.size))⟩
    | (refine ⟨?_, HW3.out.trans (HBc.out.mono HW3.out.size)⟩; simp; done)
    | (trace_state; sorry)
set_option maxRecDepth 100000 in
set_option maxHeartbeats 8000000 in
theorem leaf_nn (n m : Int) (hn : ¬ 0 ≤ n) (hm : ¬ 0 ≤ m) (w : World) :
    Calls Try.prog 7 #[.int .i64 n, .int .i64 m] w fun e w' => e = .returned (.bool true) ∧ Below w.heap.size w w' := by
  have hmx : Try.prog.follows .mixedOrders = true := by kernel_rfl
  have F1 := Aside0.mk (show term_Unrow.f 0 n [] = some (([] : List Int), false) by rw [unrow_word]; simp [hn])
  have F2 := Aside0.mk (unrow_key m)
  have F3 := Aside0.mk (show term_May.f 0 n [] = some false by rw [leaf_may 0 n (Or.inl rfl)]; simp [hn])
  have F4 := Aside0.mk (show term_May.f 1 m [] = some false by rw [leaf_may 1 m (Or.inr rfl)]; simp [hm])
  have F5 := Aside0.mk (show term_Same.f 0 n [] 1 m [] = some false by unfold term_Same.f; rw [leaf_same]; simp)
  have F6 := Aside0.mk (leaf_size 0 n)
  have F7 := Aside0.mk (leaf_depth 1 m)
  have dn : decide (0 ≤ n) = false := by simp [hn]
  have dm : decide (0 ≤ m) = false := by simp [hm]
  clear hn hm
  go_enter Try.func7, Try.ntmps7
  go_upto_region 6 with (first
    | (go_at_call 9; (with_reducible refine (pelicanlaw05_awake.calls true _ rfl).mono ?_); rintro e w1 ⟨rfl, hb1⟩; have HB1 := Aside0.mk hb1; obtain ⟨t6, t7⟩ := two_allocs w1 (.cells #[.int .i64 0, .int .i64 n, .slice none 0 0] 24 (0, 0)) (.cells #[.int .i64 1, .int .i64 m, .slice none 0 0] 24 (0, 0)); have B6 := Aside0.mk t6; have B7 := Aside0.mk t7; obtain ⟨⟨k0, k1, k2⟩, j0, j1, j2⟩ := cells3 B6.out; obtain ⟨⟨k3, k4, k5⟩, j3, j4, j5⟩ := cells3 B7.out; clear hb1 t6 t7)
    | (go_at_call 13; (with_reducible refine (unrow_leaf 0 n _ _ _ F1.out).mono ?_); rintro e w2 ⟨v3, rfl, hR3, hb2⟩; have HR := Aside0.mk hR3; have HB2 := Aside0.mk hb2; clear k0 k1 k2 j0 j1 j2 k3 k4 k5 j3 j4 j5; have Y6 := Aside0.mk (blk_below B6.out hb2); have Y7 := Aside0.mk (blk_below B7.out hb2); obtain ⟨⟨k0, k1, k2⟩, j0, j1, j2⟩ := cells3 Y6.out; obtain ⟨⟨k3, k4, k5⟩, j3, j4, j5⟩ := cells3 Y7.out; clear hR3 hb2)
    | (go_at_call 13; (with_reducible refine (unrow_leaf 1 m _ _ _ F2.out).mono ?_); rintro e w3 ⟨v4, rfl, hR4, hb3⟩; have HB3 := Aside0.mk hb3; have X6 := Aside0.mk (blk_below Y6.out hb3); have X7 := Aside0.mk (blk_below Y7.out hb3); obtain ⟨A6, c6, rfl, hl6, hC6⟩ := Kd.R_reads (Kd.R_below HR.out hb3); have HC6 := Aside0.mk hC6; clear hR4 hb3 hl6 hC6))
  have HBc := Aside0.mk (Below.refl w3.heap.size w3)
  have hA_ := HB1.out.trans ((below_alloc (below_alloc (Below.refl w1.heap.size w1) (.cells #[.int .i64 0, .int .i64 n, .slice none 0 0] 24 (0, 0))) (.cells #[.int .i64 1, .int .i64 m, .slice none 0 0] 24 (0, 0))).mono HB1.out.size)
  have hA2 := hA_.trans (HB2.out.mono hA_.size)
  have HW3 := Aside0.mk (hA2.trans (HB3.out.mono hA2.size))
  clear hA_ hA2 k0 k1 k2 j0 j1 j2 k3 k4 k5 j3 j4 j5
  obtain ⟨⟨k0, k1, k2⟩, j0, j1, j2⟩ := cells3 X6.out
  obtain ⟨⟨k3, k4, k5⟩, j3, j4, j5⟩ := cells3 X7.out
  go_wp2_with (first
    | (go_at_call 23; (with_reducible refine (may_leaf 0 n _ _ F3.out).mono ?_); rintro e w4 ⟨rfl, hb_⟩; have HBc := Aside0.mk (HBc.out.trans (hb_.mono HBc.out.size)); clear k0 k1 k2 j0 j1 j2 k3 k4 k5 j3 j4 j5; obtain ⟨⟨k0, k1, k2⟩, j0, j1, j2⟩ := cells3 (blk_below X6.out HBc.out); obtain ⟨⟨k3, k4, k5⟩, j3, j4, j5⟩ := cells3 (blk_below X7.out HBc.out); clear hb_)
    | (go_at_call 23; (with_reducible refine (may_leaf 1 m _ _ F4.out).mono ?_); rintro e w5 ⟨rfl, hb_⟩; have HBc := Aside0.mk (HBc.out.trans (hb_.mono HBc.out.size)); clear k0 k1 k2 j0 j1 j2 k3 k4 k5 j3 j4 j5; obtain ⟨⟨k0, k1, k2⟩, j0, j1, j2⟩ := cells3 (blk_below X6.out HBc.out); obtain ⟨⟨k3, k4, k5⟩, j3, j4, j5⟩ := cells3 (blk_below X7.out HBc.out); clear hb_)
    | (go_at_call 24; (with_reducible refine (same_leaf2 0 n 1 m _ _ F5.out).mono ?_); rintro e w6 ⟨rfl, hb_⟩; have HBc := Aside0.mk (HBc.out.trans (hb_.mono HBc.out.size)); clear k0 k1 k2 j0 j1 j2 k3 k4 k5 j3 j4 j5; obtain ⟨⟨k0, k1, k2⟩, j0, j1, j2⟩ := cells3 (blk_below X6.out HBc.out); obtain ⟨⟨k3, k4, k5⟩, j3, j4, j5⟩ := cells3 (blk_below X7.out HBc.out); clear hb_)
    | (go_at_call 19; (with_reducible refine (size_leaf 0 n _ _ F6.out).mono ?_); rintro e w7 ⟨rfl, hb_⟩; have HBc := Aside0.mk (HBc.out.trans (hb_.mono HBc.out.size)); clear k0 k1 k2 j0 j1 j2 k3 k4 k5 j3 j4 j5; obtain ⟨⟨k0, k1, k2⟩, j0, j1, j2⟩ := cells3 (blk_below X6.out HBc.out); obtain ⟨⟨k3, k4, k5⟩, j3, j4, j5⟩ := cells3 (blk_below X7.out HBc.out); clear hb_)
    | (go_at_call 21; (with_reducible refine (depth_leaf 1 m _ _ F7.out).mono ?_); rintro e w8 ⟨rfl, hb_⟩; have HBc := Aside0.mk (HBc.out.trans (hb_.mono HBc.out.size)); clear k0 k1 k2 j0 j1 j2 k3 k4 k5 j3 j4 j5; obtain ⟨⟨k0, k1, k2⟩, j0, j1, j2⟩ := cells3 (blk_below X6.out HBc.out); obtain ⟨⟨k3, k4, k5⟩, j3, j4, j5⟩ := cells3 (blk_below X7.out HBc.out); clear hb_))
  all_goals go_wp2
  all_goals (try go_ret)
  all_goals first
    | exact ⟨rfl, HW3.out.trans (HBc.out.mono HW3.out.size)⟩
    | exact ⟨rfl, below_drew (HW3.out.trans (HBc.out.mono HW3.out.size))⟩
    | (refine ⟨?_, HW3.out.trans (HBc.out.mono HW3.out.size)⟩; simp; done)
    | (trace_state; sorry)
def pelicanlaw05_TermLeaf.f (n m : Int) : Option Bool := some true
theorem pelicanlaw05_TermLeaf.calls (n m : Int) (r : Bool) (w : World) (h : pelicanlaw05_TermLeaf.f n m = some r) (hr_0 : r = true) :
    Calls Try.prog 7 #[.int .i64 n, .int .i64 m] w fun e w' => e = .returned (.bool r) ∧ Below w.heap.size w w' := by
  obtain rfl := Option.some.inj h
  by_cases hn : 0 ≤ n <;> by_cases hm : 0 ≤ m
  · exact leaf_yy n m hn hm w
  · exact leaf_yn n m hn hm w
  · exact leaf_ny n m hn hm w
  · exact leaf_nn n m hn hm w
end Go.Proofs.Ytmmmmedcgmcoaaa.P

