/- Contracts by hand: role.May, role.Name, role.Read (arrays by value). -/
import Derived.Test.YthkkeeekfjfffaaPx0
import Derived.Laws.Tables
import Derived.Laws.Rows
import Derived.Laws.CopyOwn
namespace Go.Proofs.Ythkkeeekfjfffaa.P
open Go.RowKit Go.Proofs.YthkkeeekfjfffaaW.PrintWords Go.Proofs.YthkkeeekfjfffaaW.PrintLast Go.Proofs.YthkkeeekfjfffaaW.PrintMore
set_option linter.unusedVariables false
set_option linter.unusedSimpArgs false
def rowL : Nat → List Int
  | 0 => [1, 0, 0, 0, 0, 0, 0, 1]
  | 1 => [1, 1, 1, 1, 0, 0, 0, 1]
  | 2 => [1, 1, 1, 1, 1, 1, 1, 1]
  | _ => [1, 0, 0, 0, 0, 1, 1, 1]
def intsV (l : List Int) : Value := .agg (l.map (Value.int .i64)).toArray
def tblV : Value := intsV (rowL 0 ++ rowL 1 ++ rowL 2 ++ rowL 3)
theorem row_0_0 (w : World) : (Instr.index 33 (intsV (rowL 0)) (.int .i64 0)).run Try.prog w = .ok (.int .i64 1) w := by kernel_rfl
theorem row_0_1 (w : World) : (Instr.index 33 (intsV (rowL 0)) (.int .i64 1)).run Try.prog w = .ok (.int .i64 0) w := by kernel_rfl
theorem row_0_2 (w : World) : (Instr.index 33 (intsV (rowL 0)) (.int .i64 2)).run Try.prog w = .ok (.int .i64 0) w := by kernel_rfl
theorem row_0_3 (w : World) : (Instr.index 33 (intsV (rowL 0)) (.int .i64 3)).run Try.prog w = .ok (.int .i64 0) w := by kernel_rfl
theorem row_0_4 (w : World) : (Instr.index 33 (intsV (rowL 0)) (.int .i64 4)).run Try.prog w = .ok (.int .i64 0) w := by kernel_rfl
theorem row_0_5 (w : World) : (Instr.index 33 (intsV (rowL 0)) (.int .i64 5)).run Try.prog w = .ok (.int .i64 0) w := by kernel_rfl
theorem row_0_6 (w : World) : (Instr.index 33 (intsV (rowL 0)) (.int .i64 6)).run Try.prog w = .ok (.int .i64 0) w := by kernel_rfl
theorem row_0_7 (w : World) : (Instr.index 33 (intsV (rowL 0)) (.int .i64 7)).run Try.prog w = .ok (.int .i64 1) w := by kernel_rfl
theorem row_1_0 (w : World) : (Instr.index 33 (intsV (rowL 1)) (.int .i64 0)).run Try.prog w = .ok (.int .i64 1) w := by kernel_rfl
theorem row_1_1 (w : World) : (Instr.index 33 (intsV (rowL 1)) (.int .i64 1)).run Try.prog w = .ok (.int .i64 1) w := by kernel_rfl
theorem row_1_2 (w : World) : (Instr.index 33 (intsV (rowL 1)) (.int .i64 2)).run Try.prog w = .ok (.int .i64 1) w := by kernel_rfl
theorem row_1_3 (w : World) : (Instr.index 33 (intsV (rowL 1)) (.int .i64 3)).run Try.prog w = .ok (.int .i64 1) w := by kernel_rfl
theorem row_1_4 (w : World) : (Instr.index 33 (intsV (rowL 1)) (.int .i64 4)).run Try.prog w = .ok (.int .i64 0) w := by kernel_rfl
theorem row_1_5 (w : World) : (Instr.index 33 (intsV (rowL 1)) (.int .i64 5)).run Try.prog w = .ok (.int .i64 0) w := by kernel_rfl
theorem row_1_6 (w : World) : (Instr.index 33 (intsV (rowL 1)) (.int .i64 6)).run Try.prog w = .ok (.int .i64 0) w := by kernel_rfl
theorem row_1_7 (w : World) : (Instr.index 33 (intsV (rowL 1)) (.int .i64 7)).run Try.prog w = .ok (.int .i64 1) w := by kernel_rfl
theorem row_2_0 (w : World) : (Instr.index 33 (intsV (rowL 2)) (.int .i64 0)).run Try.prog w = .ok (.int .i64 1) w := by kernel_rfl
theorem row_2_1 (w : World) : (Instr.index 33 (intsV (rowL 2)) (.int .i64 1)).run Try.prog w = .ok (.int .i64 1) w := by kernel_rfl
theorem row_2_2 (w : World) : (Instr.index 33 (intsV (rowL 2)) (.int .i64 2)).run Try.prog w = .ok (.int .i64 1) w := by kernel_rfl
theorem row_2_3 (w : World) : (Instr.index 33 (intsV (rowL 2)) (.int .i64 3)).run Try.prog w = .ok (.int .i64 1) w := by kernel_rfl
theorem row_2_4 (w : World) : (Instr.index 33 (intsV (rowL 2)) (.int .i64 4)).run Try.prog w = .ok (.int .i64 1) w := by kernel_rfl
theorem row_2_5 (w : World) : (Instr.index 33 (intsV (rowL 2)) (.int .i64 5)).run Try.prog w = .ok (.int .i64 1) w := by kernel_rfl
theorem row_2_6 (w : World) : (Instr.index 33 (intsV (rowL 2)) (.int .i64 6)).run Try.prog w = .ok (.int .i64 1) w := by kernel_rfl
theorem row_2_7 (w : World) : (Instr.index 33 (intsV (rowL 2)) (.int .i64 7)).run Try.prog w = .ok (.int .i64 1) w := by kernel_rfl
theorem row_3_0 (w : World) : (Instr.index 33 (intsV (rowL 3)) (.int .i64 0)).run Try.prog w = .ok (.int .i64 1) w := by kernel_rfl
theorem row_3_1 (w : World) : (Instr.index 33 (intsV (rowL 3)) (.int .i64 1)).run Try.prog w = .ok (.int .i64 0) w := by kernel_rfl
theorem row_3_2 (w : World) : (Instr.index 33 (intsV (rowL 3)) (.int .i64 2)).run Try.prog w = .ok (.int .i64 0) w := by kernel_rfl
theorem row_3_3 (w : World) : (Instr.index 33 (intsV (rowL 3)) (.int .i64 3)).run Try.prog w = .ok (.int .i64 0) w := by kernel_rfl
theorem row_3_4 (w : World) : (Instr.index 33 (intsV (rowL 3)) (.int .i64 4)).run Try.prog w = .ok (.int .i64 0) w := by kernel_rfl
theorem row_3_5 (w : World) : (Instr.index 33 (intsV (rowL 3)) (.int .i64 5)).run Try.prog w = .ok (.int .i64 1) w := by kernel_rfl
theorem row_3_6 (w : World) : (Instr.index 33 (intsV (rowL 3)) (.int .i64 6)).run Try.prog w = .ok (.int .i64 1) w := by kernel_rfl
theorem row_3_7 (w : World) : (Instr.index 33 (intsV (rowL 3)) (.int .i64 7)).run Try.prog w = .ok (.int .i64 1) w := by kernel_rfl
theorem tbl_0 (w : World) : (Instr.index 34 tblV (.int .i64 0)).run Try.prog w = .ok (intsV (rowL 0)) w := by kernel_rfl
theorem tbl_1 (w : World) : (Instr.index 34 tblV (.int .i64 1)).run Try.prog w = .ok (intsV (rowL 1)) w := by kernel_rfl
theorem tbl_2 (w : World) : (Instr.index 34 tblV (.int .i64 2)).run Try.prog w = .ok (intsV (rowL 2)) w := by kernel_rfl
theorem tbl_3 (w : World) : (Instr.index 34 tblV (.int .i64 3)).run Try.prog w = .ok (intsV (rowL 3)) w := by kernel_rfl
set_option maxHeartbeats 400000 in
set_option maxRecDepth 100000 in
theorem table_any (w : World) : Calls Try.prog 25 #[] w fun e w' => e = .returned tblV ∧ Below w.heap.size w w' := by
  go_enter Try.func25, Try.ntmps25
  go_upto_region 1 with (fail)
  apply wp_region_lit
  refine wpList_build rfl _ _ rfl (by as_aux_lemma => kernel_rfl) ?_
  refine wpList_build rfl _ _ rfl (by as_aux_lemma => kernel_rfl) ?_
  refine wpList_build rfl _ _ rfl (by as_aux_lemma => kernel_rfl) ?_
  refine wpList_build rfl _ _ rfl (by as_aux_lemma => kernel_rfl) ?_
  refine wpList_build rfl _ _ rfl (by as_aux_lemma => kernel_rfl) ?_
  refine wpList_store_row rfl 34 (.tmp 0) (.tmp 5) rfl w.heap.size (((rowL 0 ++ rowL 1 ++ rowL 2 ++ rowL 3)).map (Value.int .i64)).toArray (by as_aux_lemma => kernel_rfl) (by as_aux_lemma => kernel_rfl) 34 _ (heap_alloc_new _ _) (by as_aux_lemma => kernel_rfl) (by as_aux_lemma => kernel_rfl) (by as_aux_lemma => kernel_rfl) ?_
  apply wpList_nil
  refine ‹∀ (a : Act) (w : World), Code.wp _ _ _ a w → _› _ _ ?_
  refine wp_ret ?_
  refine bodyPost_ret (v := tblV) (results_cell_row rfl _ _ w.heap.size 34 _ _ _ (by as_aux_lemma => kernel_rfl) (setRow_heap _ _ _ _ _ _ (heap_alloc_new _ _)) Try.underlying34 rfl (by as_aux_lemma => kernel_rfl)) rfl ⟨rfl, below_setRow ((Below.refl _ _).alloc (Nat.le_refl _) _) (Nat.le_refl _) _⟩

/-- May a role ask for a command? -/
def mayB (r c : Int) : Bool := if 0 ≤ r ∧ r < 4 ∧ 0 ≤ c ∧ c < 8 then (rowL r.toNat).getD c.toNat 0 != 0 else false
def role_May.f (a0 : Int) (a1 : Int) : Option (Bool) := some (mayB a0 a1)
set_option maxHeartbeats 400000 in
set_option maxRecDepth 100000 in
theorem may_0_0 (w : World) : Calls Try.prog 18 #[.int .i64 0, .int .i64 0] w fun e w' => e = .returned (.bool true) ∧ Below w.heap.size w w' := by
  have i1 := tbl_0
  have i2 := row_0_0
  go_enter Try.func18, Try.ntmps18
  go_wp2_with (first | (go_at_call 25; refine (table_any _).mono ?_; rintro e w' ⟨rfl, hb⟩) | go_in)
  go_ret
  exact ⟨rfl, by assumption⟩
set_option maxHeartbeats 400000 in
set_option maxRecDepth 100000 in
theorem may_0_1 (w : World) : Calls Try.prog 18 #[.int .i64 0, .int .i64 1] w fun e w' => e = .returned (.bool false) ∧ Below w.heap.size w w' := by
  have i1 := tbl_0
  have i2 := row_0_1
  go_enter Try.func18, Try.ntmps18
  go_wp2_with (first | (go_at_call 25; refine (table_any _).mono ?_; rintro e w' ⟨rfl, hb⟩) | go_in)
  go_ret
  exact ⟨rfl, by assumption⟩
set_option maxHeartbeats 400000 in
set_option maxRecDepth 100000 in
theorem may_0_2 (w : World) : Calls Try.prog 18 #[.int .i64 0, .int .i64 2] w fun e w' => e = .returned (.bool false) ∧ Below w.heap.size w w' := by
  have i1 := tbl_0
  have i2 := row_0_2
  go_enter Try.func18, Try.ntmps18
  go_wp2_with (first | (go_at_call 25; refine (table_any _).mono ?_; rintro e w' ⟨rfl, hb⟩) | go_in)
  go_ret
  exact ⟨rfl, by assumption⟩
set_option maxHeartbeats 400000 in
set_option maxRecDepth 100000 in
theorem may_0_3 (w : World) : Calls Try.prog 18 #[.int .i64 0, .int .i64 3] w fun e w' => e = .returned (.bool false) ∧ Below w.heap.size w w' := by
  have i1 := tbl_0
  have i2 := row_0_3
  go_enter Try.func18, Try.ntmps18
  go_wp2_with (first | (go_at_call 25; refine (table_any _).mono ?_; rintro e w' ⟨rfl, hb⟩) | go_in)
  go_ret
  exact ⟨rfl, by assumption⟩
set_option maxHeartbeats 400000 in
set_option maxRecDepth 100000 in
theorem may_0_4 (w : World) : Calls Try.prog 18 #[.int .i64 0, .int .i64 4] w fun e w' => e = .returned (.bool false) ∧ Below w.heap.size w w' := by
  have i1 := tbl_0
  have i2 := row_0_4
  go_enter Try.func18, Try.ntmps18
  go_wp2_with (first | (go_at_call 25; refine (table_any _).mono ?_; rintro e w' ⟨rfl, hb⟩) | go_in)
  go_ret
  exact ⟨rfl, by assumption⟩
set_option maxHeartbeats 400000 in
set_option maxRecDepth 100000 in
theorem may_0_5 (w : World) : Calls Try.prog 18 #[.int .i64 0, .int .i64 5] w fun e w' => e = .returned (.bool false) ∧ Below w.heap.size w w' := by
  have i1 := tbl_0
  have i2 := row_0_5
  go_enter Try.func18, Try.ntmps18
  go_wp2_with (first | (go_at_call 25; refine (table_any _).mono ?_; rintro e w' ⟨rfl, hb⟩) | go_in)
  go_ret
  exact ⟨rfl, by assumption⟩
set_option maxHeartbeats 400000 in
set_option maxRecDepth 100000 in
theorem may_0_6 (w : World) : Calls Try.prog 18 #[.int .i64 0, .int .i64 6] w fun e w' => e = .returned (.bool false) ∧ Below w.heap.size w w' := by
  have i1 := tbl_0
  have i2 := row_0_6
  go_enter Try.func18, Try.ntmps18
  go_wp2_with (first | (go_at_call 25; refine (table_any _).mono ?_; rintro e w' ⟨rfl, hb⟩) | go_in)
  go_ret
  exact ⟨rfl, by assumption⟩
set_option maxHeartbeats 400000 in
set_option maxRecDepth 100000 in
theorem may_0_7 (w : World) : Calls Try.prog 18 #[.int .i64 0, .int .i64 7] w fun e w' => e = .returned (.bool true) ∧ Below w.heap.size w w' := by
  have i1 := tbl_0
  have i2 := row_0_7
  go_enter Try.func18, Try.ntmps18
  go_wp2_with (first | (go_at_call 25; refine (table_any _).mono ?_; rintro e w' ⟨rfl, hb⟩) | go_in)
  go_ret
  exact ⟨rfl, by assumption⟩
set_option maxHeartbeats 400000 in
set_option maxRecDepth 100000 in
theorem may_1_0 (w : World) : Calls Try.prog 18 #[.int .i64 1, .int .i64 0] w fun e w' => e = .returned (.bool true) ∧ Below w.heap.size w w' := by
  have i1 := tbl_1
  have i2 := row_1_0
  go_enter Try.func18, Try.ntmps18
  go_wp2_with (first | (go_at_call 25; refine (table_any _).mono ?_; rintro e w' ⟨rfl, hb⟩) | go_in)
  go_ret
  exact ⟨rfl, by assumption⟩
set_option maxHeartbeats 400000 in
set_option maxRecDepth 100000 in
theorem may_1_1 (w : World) : Calls Try.prog 18 #[.int .i64 1, .int .i64 1] w fun e w' => e = .returned (.bool true) ∧ Below w.heap.size w w' := by
  have i1 := tbl_1
  have i2 := row_1_1
  go_enter Try.func18, Try.ntmps18
  go_wp2_with (first | (go_at_call 25; refine (table_any _).mono ?_; rintro e w' ⟨rfl, hb⟩) | go_in)
  go_ret
  exact ⟨rfl, by assumption⟩
set_option maxHeartbeats 400000 in
set_option maxRecDepth 100000 in
theorem may_1_2 (w : World) : Calls Try.prog 18 #[.int .i64 1, .int .i64 2] w fun e w' => e = .returned (.bool true) ∧ Below w.heap.size w w' := by
  have i1 := tbl_1
  have i2 := row_1_2
  go_enter Try.func18, Try.ntmps18
  go_wp2_with (first | (go_at_call 25; refine (table_any _).mono ?_; rintro e w' ⟨rfl, hb⟩) | go_in)
  go_ret
  exact ⟨rfl, by assumption⟩
set_option maxHeartbeats 400000 in
set_option maxRecDepth 100000 in
theorem may_1_3 (w : World) : Calls Try.prog 18 #[.int .i64 1, .int .i64 3] w fun e w' => e = .returned (.bool true) ∧ Below w.heap.size w w' := by
  have i1 := tbl_1
  have i2 := row_1_3
  go_enter Try.func18, Try.ntmps18
  go_wp2_with (first | (go_at_call 25; refine (table_any _).mono ?_; rintro e w' ⟨rfl, hb⟩) | go_in)
  go_ret
  exact ⟨rfl, by assumption⟩
set_option maxHeartbeats 400000 in
set_option maxRecDepth 100000 in
theorem may_1_4 (w : World) : Calls Try.prog 18 #[.int .i64 1, .int .i64 4] w fun e w' => e = .returned (.bool false) ∧ Below w.heap.size w w' := by
  have i1 := tbl_1
  have i2 := row_1_4
  go_enter Try.func18, Try.ntmps18
  go_wp2_with (first | (go_at_call 25; refine (table_any _).mono ?_; rintro e w' ⟨rfl, hb⟩) | go_in)
  go_ret
  exact ⟨rfl, by assumption⟩
set_option maxHeartbeats 400000 in
set_option maxRecDepth 100000 in
theorem may_1_5 (w : World) : Calls Try.prog 18 #[.int .i64 1, .int .i64 5] w fun e w' => e = .returned (.bool false) ∧ Below w.heap.size w w' := by
  have i1 := tbl_1
  have i2 := row_1_5
  go_enter Try.func18, Try.ntmps18
  go_wp2_with (first | (go_at_call 25; refine (table_any _).mono ?_; rintro e w' ⟨rfl, hb⟩) | go_in)
  go_ret
  exact ⟨rfl, by assumption⟩
set_option maxHeartbeats 400000 in
set_option maxRecDepth 100000 in
theorem may_1_6 (w : World) : Calls Try.prog 18 #[.int .i64 1, .int .i64 6] w fun e w' => e = .returned (.bool false) ∧ Below w.heap.size w w' := by
  have i1 := tbl_1
  have i2 := row_1_6
  go_enter Try.func18, Try.ntmps18
  go_wp2_with (first | (go_at_call 25; refine (table_any _).mono ?_; rintro e w' ⟨rfl, hb⟩) | go_in)
  go_ret
  exact ⟨rfl, by assumption⟩
set_option maxHeartbeats 400000 in
set_option maxRecDepth 100000 in
theorem may_1_7 (w : World) : Calls Try.prog 18 #[.int .i64 1, .int .i64 7] w fun e w' => e = .returned (.bool true) ∧ Below w.heap.size w w' := by
  have i1 := tbl_1
  have i2 := row_1_7
  go_enter Try.func18, Try.ntmps18
  go_wp2_with (first | (go_at_call 25; refine (table_any _).mono ?_; rintro e w' ⟨rfl, hb⟩) | go_in)
  go_ret
  exact ⟨rfl, by assumption⟩
set_option maxHeartbeats 400000 in
set_option maxRecDepth 100000 in
theorem may_2_0 (w : World) : Calls Try.prog 18 #[.int .i64 2, .int .i64 0] w fun e w' => e = .returned (.bool true) ∧ Below w.heap.size w w' := by
  have i1 := tbl_2
  have i2 := row_2_0
  go_enter Try.func18, Try.ntmps18
  go_wp2_with (first | (go_at_call 25; refine (table_any _).mono ?_; rintro e w' ⟨rfl, hb⟩) | go_in)
  go_ret
  exact ⟨rfl, by assumption⟩
set_option maxHeartbeats 400000 in
set_option maxRecDepth 100000 in
theorem may_2_1 (w : World) : Calls Try.prog 18 #[.int .i64 2, .int .i64 1] w fun e w' => e = .returned (.bool true) ∧ Below w.heap.size w w' := by
  have i1 := tbl_2
  have i2 := row_2_1
  go_enter Try.func18, Try.ntmps18
  go_wp2_with (first | (go_at_call 25; refine (table_any _).mono ?_; rintro e w' ⟨rfl, hb⟩) | go_in)
  go_ret
  exact ⟨rfl, by assumption⟩
set_option maxHeartbeats 400000 in
set_option maxRecDepth 100000 in
theorem may_2_2 (w : World) : Calls Try.prog 18 #[.int .i64 2, .int .i64 2] w fun e w' => e = .returned (.bool true) ∧ Below w.heap.size w w' := by
  have i1 := tbl_2
  have i2 := row_2_2
  go_enter Try.func18, Try.ntmps18
  go_wp2_with (first | (go_at_call 25; refine (table_any _).mono ?_; rintro e w' ⟨rfl, hb⟩) | go_in)
  go_ret
  exact ⟨rfl, by assumption⟩
set_option maxHeartbeats 400000 in
set_option maxRecDepth 100000 in
theorem may_2_3 (w : World) : Calls Try.prog 18 #[.int .i64 2, .int .i64 3] w fun e w' => e = .returned (.bool true) ∧ Below w.heap.size w w' := by
  have i1 := tbl_2
  have i2 := row_2_3
  go_enter Try.func18, Try.ntmps18
  go_wp2_with (first | (go_at_call 25; refine (table_any _).mono ?_; rintro e w' ⟨rfl, hb⟩) | go_in)
  go_ret
  exact ⟨rfl, by assumption⟩
set_option maxHeartbeats 400000 in
set_option maxRecDepth 100000 in
theorem may_2_4 (w : World) : Calls Try.prog 18 #[.int .i64 2, .int .i64 4] w fun e w' => e = .returned (.bool true) ∧ Below w.heap.size w w' := by
  have i1 := tbl_2
  have i2 := row_2_4
  go_enter Try.func18, Try.ntmps18
  go_wp2_with (first | (go_at_call 25; refine (table_any _).mono ?_; rintro e w' ⟨rfl, hb⟩) | go_in)
  go_ret
  exact ⟨rfl, by assumption⟩
set_option maxHeartbeats 400000 in
set_option maxRecDepth 100000 in
theorem may_2_5 (w : World) : Calls Try.prog 18 #[.int .i64 2, .int .i64 5] w fun e w' => e = .returned (.bool true) ∧ Below w.heap.size w w' := by
  have i1 := tbl_2
  have i2 := row_2_5
  go_enter Try.func18, Try.ntmps18
  go_wp2_with (first | (go_at_call 25; refine (table_any _).mono ?_; rintro e w' ⟨rfl, hb⟩) | go_in)
  go_ret
  exact ⟨rfl, by assumption⟩
set_option maxHeartbeats 400000 in
set_option maxRecDepth 100000 in
theorem may_2_6 (w : World) : Calls Try.prog 18 #[.int .i64 2, .int .i64 6] w fun e w' => e = .returned (.bool true) ∧ Below w.heap.size w w' := by
  have i1 := tbl_2
  have i2 := row_2_6
  go_enter Try.func18, Try.ntmps18
  go_wp2_with (first | (go_at_call 25; refine (table_any _).mono ?_; rintro e w' ⟨rfl, hb⟩) | go_in)
  go_ret
  exact ⟨rfl, by assumption⟩
set_option maxHeartbeats 400000 in
set_option maxRecDepth 100000 in
theorem may_2_7 (w : World) : Calls Try.prog 18 #[.int .i64 2, .int .i64 7] w fun e w' => e = .returned (.bool true) ∧ Below w.heap.size w w' := by
  have i1 := tbl_2
  have i2 := row_2_7
  go_enter Try.func18, Try.ntmps18
  go_wp2_with (first | (go_at_call 25; refine (table_any _).mono ?_; rintro e w' ⟨rfl, hb⟩) | go_in)
  go_ret
  exact ⟨rfl, by assumption⟩
set_option maxHeartbeats 400000 in
set_option maxRecDepth 100000 in
theorem may_3_0 (w : World) : Calls Try.prog 18 #[.int .i64 3, .int .i64 0] w fun e w' => e = .returned (.bool true) ∧ Below w.heap.size w w' := by
  have i1 := tbl_3
  have i2 := row_3_0
  go_enter Try.func18, Try.ntmps18
  go_wp2_with (first | (go_at_call 25; refine (table_any _).mono ?_; rintro e w' ⟨rfl, hb⟩) | go_in)
  go_ret
  exact ⟨rfl, by assumption⟩
set_option maxHeartbeats 400000 in
set_option maxRecDepth 100000 in
theorem may_3_1 (w : World) : Calls Try.prog 18 #[.int .i64 3, .int .i64 1] w fun e w' => e = .returned (.bool false) ∧ Below w.heap.size w w' := by
  have i1 := tbl_3
  have i2 := row_3_1
  go_enter Try.func18, Try.ntmps18
  go_wp2_with (first | (go_at_call 25; refine (table_any _).mono ?_; rintro e w' ⟨rfl, hb⟩) | go_in)
  go_ret
  exact ⟨rfl, by assumption⟩
set_option maxHeartbeats 400000 in
set_option maxRecDepth 100000 in
theorem may_3_2 (w : World) : Calls Try.prog 18 #[.int .i64 3, .int .i64 2] w fun e w' => e = .returned (.bool false) ∧ Below w.heap.size w w' := by
  have i1 := tbl_3
  have i2 := row_3_2
  go_enter Try.func18, Try.ntmps18
  go_wp2_with (first | (go_at_call 25; refine (table_any _).mono ?_; rintro e w' ⟨rfl, hb⟩) | go_in)
  go_ret
  exact ⟨rfl, by assumption⟩
set_option maxHeartbeats 400000 in
set_option maxRecDepth 100000 in
theorem may_3_3 (w : World) : Calls Try.prog 18 #[.int .i64 3, .int .i64 3] w fun e w' => e = .returned (.bool false) ∧ Below w.heap.size w w' := by
  have i1 := tbl_3
  have i2 := row_3_3
  go_enter Try.func18, Try.ntmps18
  go_wp2_with (first | (go_at_call 25; refine (table_any _).mono ?_; rintro e w' ⟨rfl, hb⟩) | go_in)
  go_ret
  exact ⟨rfl, by assumption⟩
set_option maxHeartbeats 400000 in
set_option maxRecDepth 100000 in
theorem may_3_4 (w : World) : Calls Try.prog 18 #[.int .i64 3, .int .i64 4] w fun e w' => e = .returned (.bool false) ∧ Below w.heap.size w w' := by
  have i1 := tbl_3
  have i2 := row_3_4
  go_enter Try.func18, Try.ntmps18
  go_wp2_with (first | (go_at_call 25; refine (table_any _).mono ?_; rintro e w' ⟨rfl, hb⟩) | go_in)
  go_ret
  exact ⟨rfl, by assumption⟩
set_option maxHeartbeats 400000 in
set_option maxRecDepth 100000 in
theorem may_3_5 (w : World) : Calls Try.prog 18 #[.int .i64 3, .int .i64 5] w fun e w' => e = .returned (.bool true) ∧ Below w.heap.size w w' := by
  have i1 := tbl_3
  have i2 := row_3_5
  go_enter Try.func18, Try.ntmps18
  go_wp2_with (first | (go_at_call 25; refine (table_any _).mono ?_; rintro e w' ⟨rfl, hb⟩) | go_in)
  go_ret
  exact ⟨rfl, by assumption⟩
set_option maxHeartbeats 400000 in
set_option maxRecDepth 100000 in
theorem may_3_6 (w : World) : Calls Try.prog 18 #[.int .i64 3, .int .i64 6] w fun e w' => e = .returned (.bool true) ∧ Below w.heap.size w w' := by
  have i1 := tbl_3
  have i2 := row_3_6
  go_enter Try.func18, Try.ntmps18
  go_wp2_with (first | (go_at_call 25; refine (table_any _).mono ?_; rintro e w' ⟨rfl, hb⟩) | go_in)
  go_ret
  exact ⟨rfl, by assumption⟩
set_option maxHeartbeats 400000 in
set_option maxRecDepth 100000 in
theorem may_3_7 (w : World) : Calls Try.prog 18 #[.int .i64 3, .int .i64 7] w fun e w' => e = .returned (.bool true) ∧ Below w.heap.size w w' := by
  have i1 := tbl_3
  have i2 := row_3_7
  go_enter Try.func18, Try.ntmps18
  go_wp2_with (first | (go_at_call 25; refine (table_any _).mono ?_; rintro e w' ⟨rfl, hb⟩) | go_in)
  go_ret
  exact ⟨rfl, by assumption⟩

set_option maxHeartbeats 400000 in
set_option maxRecDepth 100000 in
theorem may_no (r c : Int) (w : World) (h : ¬ (0 ≤ r ∧ r < 4 ∧ 0 ≤ c ∧ c < 8)) : Calls Try.prog 18 #[.int .i64 r, .int .i64 c] w fun e w' => e = .returned (.bool false) ∧ w' = w := by
  by_cases h0 : 0 ≤ r
  · by_cases h1 : r < 4
    · by_cases h2 : 0 ≤ c
      · have h3 : 8 ≤ c := by omega
        clear h
        go_enter Try.func18, Try.ntmps18
        go_wp2
        go_ret
        exact ⟨rfl, rfl⟩
      · have h3 : c < 0 := by omega
        clear h h2
        go_enter Try.func18, Try.ntmps18
        go_wp2
        go_ret
        exact ⟨rfl, rfl⟩
    · have h3 : 4 ≤ r := by omega
      clear h h1
      go_enter Try.func18, Try.ntmps18
      go_wp2
      go_ret
      exact ⟨rfl, rfl⟩
  · have h3 : r < 0 := by omega
    clear h h0
    go_enter Try.func18, Try.ntmps18
    go_wp2
    go_ret
    exact ⟨rfl, rfl⟩
theorem role_May.calls (a0 : Int) (a1 : Int) (r : Bool) (w : World) (h : role_May.f a0 a1 = some r) :
    Calls Try.prog 18 #[.int .i64 a0, .int .i64 a1] w fun e w' => e = .returned (.bool r) ∧ Below w.heap.size w w' := by
  obtain rfl : mayB a0 a1 = r := Option.some.inj h
  by_cases hin : 0 ≤ a0 ∧ a0 < 4 ∧ 0 ≤ a1 ∧ a1 < 8
  · have hr : a0 = 0 ∨ a0 = 1 ∨ a0 = 2 ∨ a0 = 3 := by omega
    have hc : a1 = 0 ∨ a1 = 1 ∨ a1 = 2 ∨ a1 = 3 ∨ a1 = 4 ∨ a1 = 5 ∨ a1 = 6 ∨ a1 = 7 := by omega
    rcases hr with rfl | rfl | rfl | rfl
    · rcases hc with rfl | rfl | rfl | rfl | rfl | rfl | rfl | rfl
      · exact may_0_0 w
      · exact may_0_1 w
      · exact may_0_2 w
      · exact may_0_3 w
      · exact may_0_4 w
      · exact may_0_5 w
      · exact may_0_6 w
      · exact may_0_7 w
    · rcases hc with rfl | rfl | rfl | rfl | rfl | rfl | rfl | rfl
      · exact may_1_0 w
      · exact may_1_1 w
      · exact may_1_2 w
      · exact may_1_3 w
      · exact may_1_4 w
      · exact may_1_5 w
      · exact may_1_6 w
      · exact may_1_7 w
    · rcases hc with rfl | rfl | rfl | rfl | rfl | rfl | rfl | rfl
      · exact may_2_0 w
      · exact may_2_1 w
      · exact may_2_2 w
      · exact may_2_3 w
      · exact may_2_4 w
      · exact may_2_5 w
      · exact may_2_6 w
      · exact may_2_7 w
    · rcases hc with rfl | rfl | rfl | rfl | rfl | rfl | rfl | rfl
      · exact may_3_0 w
      · exact may_3_1 w
      · exact may_3_2 w
      · exact may_3_3 w
      · exact may_3_4 w
      · exact may_3_5 w
      · exact may_3_6 w
      · exact may_3_7 w
  · have e : mayB a0 a1 = false := by unfold mayB; rw [if_neg hin]
    rw [e]
    refine (may_no a0 a1 w hin).mono ?_
    rintro e w' ⟨rfl, rfl⟩
    exact ⟨rfl, Below.refl _ _⟩
/-- The commands' names. -/
def nameL : List ByteArray := [⟨#[103, 101, 116]⟩, ⟨#[104, 111, 108, 100]⟩, ⟨#[102, 114, 101, 101]⟩, ⟨#[110, 101, 120, 116]⟩, ⟨#[112, 108, 97, 110]⟩, ⟨#[114, 101, 100]⟩, ⟨#[99, 108, 101, 97, 114]⟩, ⟨#[99, 108, 111, 115, 101]⟩]
def nameC : Array Value := (nameL.map Value.string).toArray
def nameV : Value := .agg nameC
theorem names_any (w : World) : Calls Try.prog 26 #[] w fun e w' => e = .returned nameV ∧ Below w.heap.size w w' := by
  go_enter Try.func26, Try.ntmps26
  go_upto_region 1 with (fail)
  apply wp_region_lit
  refine wpList_build rfl _ _ rfl (by as_aux_lemma => kernel_rfl) ?_
  refine wpList_store_row rfl 36 (.tmp 0) (.tmp 1) rfl w.heap.size nameC (by as_aux_lemma => kernel_rfl) (by as_aux_lemma => kernel_rfl) 36 _ (heap_alloc_new _ _) (by as_aux_lemma => kernel_rfl) (by as_aux_lemma => kernel_rfl) (by as_aux_lemma => kernel_rfl) ?_
  apply wpList_nil
  refine ‹∀ (a : Act) (w : World), Code.wp _ _ _ a w → _› _ _ ?_
  refine wp_ret ?_
  refine bodyPost_ret (v := nameV) (results_cell_row rfl _ _ w.heap.size 36 _ _ _ (by as_aux_lemma => kernel_rfl) (setRow_heap _ _ _ _ _ _ (heap_alloc_new _ _)) Try.underlying36 rfl (by as_aux_lemma => kernel_rfl)) rfl ⟨rfl, below_setRow ((Below.refl _ _).alloc (Nat.le_refl _) _) (Nat.le_refl _) _⟩
def nameF (c : Int) : ByteArray := if 0 ≤ c ∧ c < 8 then nameL.getD c.toNat ByteArray.empty else ⟨#[]⟩
def role_Name.f (a0 : Int) : Option (ByteArray) := some (nameF a0)
theorem nm_0 (w : World) : (Instr.index 36 nameV (.int .i64 0)).run Try.prog w = .ok (.string (nameF 0)) w := by kernel_rfl
set_option maxHeartbeats 400000 in
set_option maxRecDepth 100000 in
theorem name_0 (w : World) : Calls Try.prog 20 #[.int .i64 0] w fun e w' => e = .returned (.string (nameF 0)) ∧ Below w.heap.size w w' := by
  have i1 := nm_0
  go_enter Try.func20, Try.ntmps20
  go_wp2_with (first | (go_at_call 26; refine (names_any _).mono ?_; rintro e w' ⟨rfl, hb⟩) | go_in)
  go_ret
  exact ⟨rfl, by assumption⟩
theorem nm_1 (w : World) : (Instr.index 36 nameV (.int .i64 1)).run Try.prog w = .ok (.string (nameF 1)) w := by kernel_rfl
set_option maxHeartbeats 400000 in
set_option maxRecDepth 100000 in
theorem name_1 (w : World) : Calls Try.prog 20 #[.int .i64 1] w fun e w' => e = .returned (.string (nameF 1)) ∧ Below w.heap.size w w' := by
  have i1 := nm_1
  go_enter Try.func20, Try.ntmps20
  go_wp2_with (first | (go_at_call 26; refine (names_any _).mono ?_; rintro e w' ⟨rfl, hb⟩) | go_in)
  go_ret
  exact ⟨rfl, by assumption⟩
theorem nm_2 (w : World) : (Instr.index 36 nameV (.int .i64 2)).run Try.prog w = .ok (.string (nameF 2)) w := by kernel_rfl
set_option maxHeartbeats 400000 in
set_option maxRecDepth 100000 in
theorem name_2 (w : World) : Calls Try.prog 20 #[.int .i64 2] w fun e w' => e = .returned (.string (nameF 2)) ∧ Below w.heap.size w w' := by
  have i1 := nm_2
  go_enter Try.func20, Try.ntmps20
  go_wp2_with (first | (go_at_call 26; refine (names_any _).mono ?_; rintro e w' ⟨rfl, hb⟩) | go_in)
  go_ret
  exact ⟨rfl, by assumption⟩
theorem nm_3 (w : World) : (Instr.index 36 nameV (.int .i64 3)).run Try.prog w = .ok (.string (nameF 3)) w := by kernel_rfl
set_option maxHeartbeats 400000 in
set_option maxRecDepth 100000 in
theorem name_3 (w : World) : Calls Try.prog 20 #[.int .i64 3] w fun e w' => e = .returned (.string (nameF 3)) ∧ Below w.heap.size w w' := by
  have i1 := nm_3
  go_enter Try.func20, Try.ntmps20
  go_wp2_with (first | (go_at_call 26; refine (names_any _).mono ?_; rintro e w' ⟨rfl, hb⟩) | go_in)
  go_ret
  exact ⟨rfl, by assumption⟩
theorem nm_4 (w : World) : (Instr.index 36 nameV (.int .i64 4)).run Try.prog w = .ok (.string (nameF 4)) w := by kernel_rfl
set_option maxHeartbeats 400000 in
set_option maxRecDepth 100000 in
theorem name_4 (w : World) : Calls Try.prog 20 #[.int .i64 4] w fun e w' => e = .returned (.string (nameF 4)) ∧ Below w.heap.size w w' := by
  have i1 := nm_4
  go_enter Try.func20, Try.ntmps20
  go_wp2_with (first | (go_at_call 26; refine (names_any _).mono ?_; rintro e w' ⟨rfl, hb⟩) | go_in)
  go_ret
  exact ⟨rfl, by assumption⟩
theorem nm_5 (w : World) : (Instr.index 36 nameV (.int .i64 5)).run Try.prog w = .ok (.string (nameF 5)) w := by kernel_rfl
set_option maxHeartbeats 400000 in
set_option maxRecDepth 100000 in
theorem name_5 (w : World) : Calls Try.prog 20 #[.int .i64 5] w fun e w' => e = .returned (.string (nameF 5)) ∧ Below w.heap.size w w' := by
  have i1 := nm_5
  go_enter Try.func20, Try.ntmps20
  go_wp2_with (first | (go_at_call 26; refine (names_any _).mono ?_; rintro e w' ⟨rfl, hb⟩) | go_in)
  go_ret
  exact ⟨rfl, by assumption⟩
theorem nm_6 (w : World) : (Instr.index 36 nameV (.int .i64 6)).run Try.prog w = .ok (.string (nameF 6)) w := by kernel_rfl
set_option maxHeartbeats 400000 in
set_option maxRecDepth 100000 in
theorem name_6 (w : World) : Calls Try.prog 20 #[.int .i64 6] w fun e w' => e = .returned (.string (nameF 6)) ∧ Below w.heap.size w w' := by
  have i1 := nm_6
  go_enter Try.func20, Try.ntmps20
  go_wp2_with (first | (go_at_call 26; refine (names_any _).mono ?_; rintro e w' ⟨rfl, hb⟩) | go_in)
  go_ret
  exact ⟨rfl, by assumption⟩
theorem nm_7 (w : World) : (Instr.index 36 nameV (.int .i64 7)).run Try.prog w = .ok (.string (nameF 7)) w := by kernel_rfl
set_option maxHeartbeats 400000 in
set_option maxRecDepth 100000 in
theorem name_7 (w : World) : Calls Try.prog 20 #[.int .i64 7] w fun e w' => e = .returned (.string (nameF 7)) ∧ Below w.heap.size w w' := by
  have i1 := nm_7
  go_enter Try.func20, Try.ntmps20
  go_wp2_with (first | (go_at_call 26; refine (names_any _).mono ?_; rintro e w' ⟨rfl, hb⟩) | go_in)
  go_ret
  exact ⟨rfl, by assumption⟩

set_option maxHeartbeats 400000 in
set_option maxRecDepth 100000 in
theorem name_no (c : Int) (w : World) (h : ¬ (0 ≤ c ∧ c < 8)) : Calls Try.prog 20 #[.int .i64 c] w fun e w' => e = .returned (.string ⟨#[]⟩) ∧ w' = w := by
  by_cases h2 : 0 ≤ c
  · have h3 : 8 ≤ c := by omega
    have hd1 : decide (c < 8) = false := by simp; omega
    have hd0 : decide (c < 0) = false := by simp; omega
    clear h
    go_enter Try.func20, Try.ntmps20
    go_wp2
    go_ret
    exact ⟨rfl, rfl⟩
  · have h3 : c < 0 := by omega
    have hd0 : decide (c < 0) = true := by simp; omega
    clear h h2
    go_enter Try.func20, Try.ntmps20
    go_wp2
    go_ret
    exact ⟨rfl, rfl⟩
theorem role_Name.calls (a0 : Int) (r : ByteArray) (w : World) (h : role_Name.f a0 = some r) :
    Calls Try.prog 20 #[.int .i64 a0] w fun e w' => e = .returned (.string r) ∧ Below w.heap.size w w' := by
  obtain rfl : nameF a0 = r := Option.some.inj h
  by_cases hin : 0 ≤ a0 ∧ a0 < 8
  · have hc : a0 = 0 ∨ a0 = 1 ∨ a0 = 2 ∨ a0 = 3 ∨ a0 = 4 ∨ a0 = 5 ∨ a0 = 6 ∨ a0 = 7 := by omega
    rcases hc with rfl | rfl | rfl | rfl | rfl | rfl | rfl | rfl
    · exact name_0 w
    · exact name_1 w
    · exact name_2 w
    · exact name_3 w
    · exact name_4 w
    · exact name_5 w
    · exact name_6 w
    · exact name_7 w
  · have e : nameF a0 = ⟨#[]⟩ := by unfold nameF; rw [if_neg hin]
    rw [e]
    refine (name_no a0 w hin).mono ?_
    rintro e w' ⟨rfl, rfl⟩
    exact ⟨rfl, Below.refl _ _⟩
end Go.Proofs.Ythkkeeekfjfffaa.P
