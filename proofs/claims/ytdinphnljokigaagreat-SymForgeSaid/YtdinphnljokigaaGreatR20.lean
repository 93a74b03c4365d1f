/- What LawSymForge rests on, part 20: several texts put together. -/
import Derived.Test.YtdinphnljokigaaGreatR12
import Derived.Laws.Tables
import Derived.Laws.Rows
import Derived.Laws.CopyOwn
import Derived.Test.YtdinphnljokigaaGreatR2
set_option linter.unusedVariables false
set_option linter.unnecessarySimpa false
set_option linter.unusedSimpArgs false
set_option maxRecDepth 100000
section
namespace Go.Proofs.YtdinphnljokigaaGreat.P
open Go.RowKit Go.Proofs.YtdinphnljokigaaGreatW.PrintWords Go.Proofs.YtdinphnljokigaaGreatW.PrintLast Go.Proofs.YtdinphnljokigaaGreatW.PrintMore
def rowL : Nat → List Int
 | 0 => [1, 0, 0, 0, 0, 0, 0, 1]
 | 1 => [1, 1, 1, 1, 0, 0, 0, 1]
 | 2 => [1, 1, 1, 1, 1, 1, 1, 1]
 | _ => [1, 0, 0, 0, 0, 1, 1, 1]
def intsV (l : List Int) : Value := .agg (l.map (Value.int .i64)).toArray
def tblV : Value := intsV (rowL 0 ++ rowL 1 ++ rowL 2 ++ rowL 3)
theorem row_0_0 (w : World) : (Instr.index 79 (intsV (rowL 0)) (.int .i64 0)).run Tryz.prog w = .ok (.int .i64 1) w := by kernel_rfl
theorem row_0_1 (w : World) : (Instr.index 79 (intsV (rowL 0)) (.int .i64 1)).run Tryz.prog w = .ok (.int .i64 0) w := by kernel_rfl
theorem row_0_2 (w : World) : (Instr.index 79 (intsV (rowL 0)) (.int .i64 2)).run Tryz.prog w = .ok (.int .i64 0) w := by kernel_rfl
theorem row_0_3 (w : World) : (Instr.index 79 (intsV (rowL 0)) (.int .i64 3)).run Tryz.prog w = .ok (.int .i64 0) w := by kernel_rfl
theorem row_0_4 (w : World) : (Instr.index 79 (intsV (rowL 0)) (.int .i64 4)).run Tryz.prog w = .ok (.int .i64 0) w := by kernel_rfl
theorem row_0_5 (w : World) : (Instr.index 79 (intsV (rowL 0)) (.int .i64 5)).run Tryz.prog w = .ok (.int .i64 0) w := by kernel_rfl
theorem row_0_6 (w : World) : (Instr.index 79 (intsV (rowL 0)) (.int .i64 6)).run Tryz.prog w = .ok (.int .i64 0) w := by kernel_rfl
theorem row_0_7 (w : World) : (Instr.index 79 (intsV (rowL 0)) (.int .i64 7)).run Tryz.prog w = .ok (.int .i64 1) w := by kernel_rfl
theorem row_1_0 (w : World) : (Instr.index 79 (intsV (rowL 1)) (.int .i64 0)).run Tryz.prog w = .ok (.int .i64 1) w := by kernel_rfl
theorem row_1_1 (w : World) : (Instr.index 79 (intsV (rowL 1)) (.int .i64 1)).run Tryz.prog w = .ok (.int .i64 1) w := by kernel_rfl
theorem row_1_2 (w : World) : (Instr.index 79 (intsV (rowL 1)) (.int .i64 2)).run Tryz.prog w = .ok (.int .i64 1) w := by kernel_rfl
theorem row_1_3 (w : World) : (Instr.index 79 (intsV (rowL 1)) (.int .i64 3)).run Tryz.prog w = .ok (.int .i64 1) w := by kernel_rfl
theorem row_1_4 (w : World) : (Instr.index 79 (intsV (rowL 1)) (.int .i64 4)).run Tryz.prog w = .ok (.int .i64 0) w := by kernel_rfl
theorem row_1_5 (w : World) : (Instr.index 79 (intsV (rowL 1)) (.int .i64 5)).run Tryz.prog w = .ok (.int .i64 0) w := by kernel_rfl
theorem row_1_6 (w : World) : (Instr.index 79 (intsV (rowL 1)) (.int .i64 6)).run Tryz.prog w = .ok (.int .i64 0) w := by kernel_rfl
theorem row_1_7 (w : World) : (Instr.index 79 (intsV (rowL 1)) (.int .i64 7)).run Tryz.prog w = .ok (.int .i64 1) w := by kernel_rfl
theorem row_2_0 (w : World) : (Instr.index 79 (intsV (rowL 2)) (.int .i64 0)).run Tryz.prog w = .ok (.int .i64 1) w := by kernel_rfl
theorem row_2_1 (w : World) : (Instr.index 79 (intsV (rowL 2)) (.int .i64 1)).run Tryz.prog w = .ok (.int .i64 1) w := by kernel_rfl
theorem row_2_2 (w : World) : (Instr.index 79 (intsV (rowL 2)) (.int .i64 2)).run Tryz.prog w = .ok (.int .i64 1) w := by kernel_rfl
theorem row_2_3 (w : World) : (Instr.index 79 (intsV (rowL 2)) (.int .i64 3)).run Tryz.prog w = .ok (.int .i64 1) w := by kernel_rfl
theorem row_2_4 (w : World) : (Instr.index 79 (intsV (rowL 2)) (.int .i64 4)).run Tryz.prog w = .ok (.int .i64 1) w := by kernel_rfl
theorem row_2_5 (w : World) : (Instr.index 79 (intsV (rowL 2)) (.int .i64 5)).run Tryz.prog w = .ok (.int .i64 1) w := by kernel_rfl
theorem row_2_6 (w : World) : (Instr.index 79 (intsV (rowL 2)) (.int .i64 6)).run Tryz.prog w = .ok (.int .i64 1) w := by kernel_rfl
theorem row_2_7 (w : World) : (Instr.index 79 (intsV (rowL 2)) (.int .i64 7)).run Tryz.prog w = .ok (.int .i64 1) w := by kernel_rfl
theorem row_3_0 (w : World) : (Instr.index 79 (intsV (rowL 3)) (.int .i64 0)).run Tryz.prog w = .ok (.int .i64 1) w := by kernel_rfl
theorem row_3_1 (w : World) : (Instr.index 79 (intsV (rowL 3)) (.int .i64 1)).run Tryz.prog w = .ok (.int .i64 0) w := by kernel_rfl
theorem row_3_2 (w : World) : (Instr.index 79 (intsV (rowL 3)) (.int .i64 2)).run Tryz.prog w = .ok (.int .i64 0) w := by kernel_rfl
theorem row_3_3 (w : World) : (Instr.index 79 (intsV (rowL 3)) (.int .i64 3)).run Tryz.prog w = .ok (.int .i64 0) w := by kernel_rfl
theorem row_3_4 (w : World) : (Instr.index 79 (intsV (rowL 3)) (.int .i64 4)).run Tryz.prog w = .ok (.int .i64 0) w := by kernel_rfl
theorem row_3_5 (w : World) : (Instr.index 79 (intsV (rowL 3)) (.int .i64 5)).run Tryz.prog w = .ok (.int .i64 1) w := by kernel_rfl
theorem row_3_6 (w : World) : (Instr.index 79 (intsV (rowL 3)) (.int .i64 6)).run Tryz.prog w = .ok (.int .i64 1) w := by kernel_rfl
theorem row_3_7 (w : World) : (Instr.index 79 (intsV (rowL 3)) (.int .i64 7)).run Tryz.prog w = .ok (.int .i64 1) w := by kernel_rfl
theorem tbl_0 (w : World) : (Instr.index 80 tblV (.int .i64 0)).run Tryz.prog w = .ok (intsV (rowL 0)) w := by kernel_rfl
theorem tbl_1 (w : World) : (Instr.index 80 tblV (.int .i64 1)).run Tryz.prog w = .ok (intsV (rowL 1)) w := by kernel_rfl
theorem tbl_2 (w : World) : (Instr.index 80 tblV (.int .i64 2)).run Tryz.prog w = .ok (intsV (rowL 2)) w := by kernel_rfl
theorem tbl_3 (w : World) : (Instr.index 80 tblV (.int .i64 3)).run Tryz.prog w = .ok (intsV (rowL 3)) w := by kernel_rfl
set_option maxHeartbeats 400000 in
set_option maxRecDepth 100000 in
theorem table_any (w : World) : Calls Tryz.prog 33 #[] w fun e w' => e = .returned tblV ∧ Below w.heap.size w w' := by
 go_enter Tryz.func33, Tryz.ntmps33
 go_upto_region 1 with (fail)
 apply wp_region_lit
 refine wpList_build rfl _ _ rfl (by as_aux_lemma => kernel_rfl) ?_
 refine wpList_build rfl _ _ rfl (by as_aux_lemma => kernel_rfl) ?_
 refine wpList_build rfl _ _ rfl (by as_aux_lemma => kernel_rfl) ?_
 refine wpList_build rfl _ _ rfl (by as_aux_lemma => kernel_rfl) ?_
 refine wpList_build rfl _ _ rfl (by as_aux_lemma => kernel_rfl) ?_
 refine wpList_store_row rfl 80 (.tmp 0) (.tmp 5) rfl w.heap.size (((rowL 0 ++ rowL 1 ++ rowL 2 ++ rowL 3)).map (Value.int .i64)).toArray (by as_aux_lemma => kernel_rfl) (by as_aux_lemma => kernel_rfl) 80 _ (heap_alloc_new _ _) (by as_aux_lemma => kernel_rfl) (by as_aux_lemma => kernel_rfl) (by as_aux_lemma => kernel_rfl) ?_
 apply wpList_nil
 refine ‹∀ (a : Act) (w : World), Code.wp _ _ _ a w → _› _ _ ?_
 refine wp_ret ?_
 refine bodyPost_ret (v := tblV) (results_cell_row rfl _ _ w.heap.size 80 _ _ _ (by as_aux_lemma => kernel_rfl) (setRow_heap _ _ _ _ _ _ (heap_alloc_new _ _)) Tryz.underlying80 rfl (by as_aux_lemma => kernel_rfl)) rfl ⟨rfl, below_setRow ((Below.refl _ _).alloc (Nat.le_refl _) _) (Nat.le_refl _) _⟩
def mayR (r c : Int) : Bool := if 0 ≤ r ∧ r < 4 ∧ 0 ≤ c ∧ c < 8 then (rowL r.toNat).getD c.toNat 0 != 0 else false
def role_May.f (a0 : Int) (a1 : Int) : Option (Bool) := some (mayR a0 a1)
set_option maxHeartbeats 400000 in
set_option maxRecDepth 100000 in
theorem rmay_0_0 (w : World) : Calls Tryz.prog 16 #[.int .i64 0, .int .i64 0] w fun e w' => e = .returned (.bool true) ∧ Below w.heap.size w w' := by
 have i1 := tbl_0
 have i2 := row_0_0
 go_enter Tryz.func16, Tryz.ntmps16
 go_wp2_with (first | (go_at_call 33; refine (table_any _).mono ?_; rintro e w' ⟨rfl, hb⟩) | go_in)
 go_ret
 exact ⟨rfl, by assumption⟩
set_option maxHeartbeats 400000 in
set_option maxRecDepth 100000 in
theorem rmay_0_1 (w : World) : Calls Tryz.prog 16 #[.int .i64 0, .int .i64 1] w fun e w' => e = .returned (.bool false) ∧ Below w.heap.size w w' := by
 have i1 := tbl_0
 have i2 := row_0_1
 go_enter Tryz.func16, Tryz.ntmps16
 go_wp2_with (first | (go_at_call 33; refine (table_any _).mono ?_; rintro e w' ⟨rfl, hb⟩) | go_in)
 go_ret
 exact ⟨rfl, by assumption⟩
set_option maxHeartbeats 400000 in
set_option maxRecDepth 100000 in
theorem rmay_0_2 (w : World) : Calls Tryz.prog 16 #[.int .i64 0, .int .i64 2] w fun e w' => e = .returned (.bool false) ∧ Below w.heap.size w w' := by
 have i1 := tbl_0
 have i2 := row_0_2
 go_enter Tryz.func16, Tryz.ntmps16
 go_wp2_with (first | (go_at_call 33; refine (table_any _).mono ?_; rintro e w' ⟨rfl, hb⟩) | go_in)
 go_ret
 exact ⟨rfl, by assumption⟩
set_option maxHeartbeats 400000 in
set_option maxRecDepth 100000 in
theorem rmay_0_3 (w : World) : Calls Tryz.prog 16 #[.int .i64 0, .int .i64 3] w fun e w' => e = .returned (.bool false) ∧ Below w.heap.size w w' := by
 have i1 := tbl_0
 have i2 := row_0_3
 go_enter Tryz.func16, Tryz.ntmps16
 go_wp2_with (first | (go_at_call 33; refine (table_any _).mono ?_; rintro e w' ⟨rfl, hb⟩) | go_in)
 go_ret
 exact ⟨rfl, by assumption⟩
set_option maxHeartbeats 400000 in
set_option maxRecDepth 100000 in
theorem rmay_0_4 (w : World) : Calls Tryz.prog 16 #[.int .i64 0, .int .i64 4] w fun e w' => e = .returned (.bool false) ∧ Below w.heap.size w w' := by
 have i1 := tbl_0
 have i2 := row_0_4
 go_enter Tryz.func16, Tryz.ntmps16
 go_wp2_with (first | (go_at_call 33; refine (table_any _).mono ?_; rintro e w' ⟨rfl, hb⟩) | go_in)
 go_ret
 exact ⟨rfl, by assumption⟩
set_option maxHeartbeats 400000 in
set_option maxRecDepth 100000 in
theorem rmay_0_5 (w : World) : Calls Tryz.prog 16 #[.int .i64 0, .int .i64 5] w fun e w' => e = .returned (.bool false) ∧ Below w.heap.size w w' := by
 have i1 := tbl_0
 have i2 := row_0_5
 go_enter Tryz.func16, Tryz.ntmps16
 go_wp2_with (first | (go_at_call 33; refine (table_any _).mono ?_; rintro e w' ⟨rfl, hb⟩) | go_in)
 go_ret
 exact ⟨rfl, by assumption⟩
set_option maxHeartbeats 400000 in
set_option maxRecDepth 100000 in
theorem rmay_0_6 (w : World) : Calls Tryz.prog 16 #[.int .i64 0, .int .i64 6] w fun e w' => e = .returned (.bool false) ∧ Below w.heap.size w w' := by
 have i1 := tbl_0
 have i2 := row_0_6
 go_enter Tryz.func16, Tryz.ntmps16
 go_wp2_with (first | (go_at_call 33; refine (table_any _).mono ?_; rintro e w' ⟨rfl, hb⟩) | go_in)
 go_ret
 exact ⟨rfl, by assumption⟩
set_option maxHeartbeats 400000 in
set_option maxRecDepth 100000 in
theorem rmay_0_7 (w : World) : Calls Tryz.prog 16 #[.int .i64 0, .int .i64 7] w fun e w' => e = .returned (.bool true) ∧ Below w.heap.size w w' := by
 have i1 := tbl_0
 have i2 := row_0_7
 go_enter Tryz.func16, Tryz.ntmps16
 go_wp2_with (first | (go_at_call 33; refine (table_any _).mono ?_; rintro e w' ⟨rfl, hb⟩) | go_in)
 go_ret
 exact ⟨rfl, by assumption⟩
set_option maxHeartbeats 400000 in
set_option maxRecDepth 100000 in
theorem rmay_1_0 (w : World) : Calls Tryz.prog 16 #[.int .i64 1, .int .i64 0] w fun e w' => e = .returned (.bool true) ∧ Below w.heap.size w w' := by
 have i1 := tbl_1
 have i2 := row_1_0
 go_enter Tryz.func16, Tryz.ntmps16
 go_wp2_with (first | (go_at_call 33; refine (table_any _).mono ?_; rintro e w' ⟨rfl, hb⟩) | go_in)
 go_ret
 exact ⟨rfl, by assumption⟩
set_option maxHeartbeats 400000 in
set_option maxRecDepth 100000 in
theorem rmay_1_1 (w : World) : Calls Tryz.prog 16 #[.int .i64 1, .int .i64 1] w fun e w' => e = .returned (.bool true) ∧ Below w.heap.size w w' := by
 have i1 := tbl_1
 have i2 := row_1_1
 go_enter Tryz.func16, Tryz.ntmps16
 go_wp2_with (first | (go_at_call 33; refine (table_any _).mono ?_; rintro e w' ⟨rfl, hb⟩) | go_in)
 go_ret
 exact ⟨rfl, by assumption⟩
set_option maxHeartbeats 400000 in
set_option maxRecDepth 100000 in
theorem rmay_1_2 (w : World) : Calls Tryz.prog 16 #[.int .i64 1, .int .i64 2] w fun e w' => e = .returned (.bool true) ∧ Below w.heap.size w w' := by
 have i1 := tbl_1
 have i2 := row_1_2
 go_enter Tryz.func16, Tryz.ntmps16
 go_wp2_with (first | (go_at_call 33; refine (table_any _).mono ?_; rintro e w' ⟨rfl, hb⟩) | go_in)
 go_ret
 exact ⟨rfl, by assumption⟩
set_option maxHeartbeats 400000 in
set_option maxRecDepth 100000 in
theorem rmay_1_3 (w : World) : Calls Tryz.prog 16 #[.int .i64 1, .int .i64 3] w fun e w' => e = .returned (.bool true) ∧ Below w.heap.size w w' := by
 have i1 := tbl_1
 have i2 := row_1_3
 go_enter Tryz.func16, Tryz.ntmps16
 go_wp2_with (first | (go_at_call 33; refine (table_any _).mono ?_; rintro e w' ⟨rfl, hb⟩) | go_in)
 go_ret
 exact ⟨rfl, by assumption⟩
set_option maxHeartbeats 400000 in
set_option maxRecDepth 100000 in
theorem rmay_1_4 (w : World) : Calls Tryz.prog 16 #[.int .i64 1, .int .i64 4] w fun e w' => e = .returned (.bool false) ∧ Below w.heap.size w w' := by
 have i1 := tbl_1
 have i2 := row_1_4
 go_enter Tryz.func16, Tryz.ntmps16
 go_wp2_with (first | (go_at_call 33; refine (table_any _).mono ?_; rintro e w' ⟨rfl, hb⟩) | go_in)
 go_ret
 exact ⟨rfl, by assumption⟩
set_option maxHeartbeats 400000 in
set_option maxRecDepth 100000 in
theorem rmay_1_5 (w : World) : Calls Tryz.prog 16 #[.int .i64 1, .int .i64 5] w fun e w' => e = .returned (.bool false) ∧ Below w.heap.size w w' := by
 have i1 := tbl_1
 have i2 := row_1_5
 go_enter Tryz.func16, Tryz.ntmps16
 go_wp2_with (first | (go_at_call 33; refine (table_any _).mono ?_; rintro e w' ⟨rfl, hb⟩) | go_in)
 go_ret
 exact ⟨rfl, by assumption⟩
set_option maxHeartbeats 400000 in
set_option maxRecDepth 100000 in
theorem rmay_1_6 (w : World) : Calls Tryz.prog 16 #[.int .i64 1, .int .i64 6] w fun e w' => e = .returned (.bool false) ∧ Below w.heap.size w w' := by
 have i1 := tbl_1
 have i2 := row_1_6
 go_enter Tryz.func16, Tryz.ntmps16
 go_wp2_with (first | (go_at_call 33; refine (table_any _).mono ?_; rintro e w' ⟨rfl, hb⟩) | go_in)
 go_ret
 exact ⟨rfl, by assumption⟩
set_option maxHeartbeats 400000 in
set_option maxRecDepth 100000 in
theorem rmay_1_7 (w : World) : Calls Tryz.prog 16 #[.int .i64 1, .int .i64 7] w fun e w' => e = .returned (.bool true) ∧ Below w.heap.size w w' := by
 have i1 := tbl_1
 have i2 := row_1_7
 go_enter Tryz.func16, Tryz.ntmps16
 go_wp2_with (first | (go_at_call 33; refine (table_any _).mono ?_; rintro e w' ⟨rfl, hb⟩) | go_in)
 go_ret
 exact ⟨rfl, by assumption⟩
set_option maxHeartbeats 400000 in
set_option maxRecDepth 100000 in
theorem rmay_2_0 (w : World) : Calls Tryz.prog 16 #[.int .i64 2, .int .i64 0] w fun e w' => e = .returned (.bool true) ∧ Below w.heap.size w w' := by
 have i1 := tbl_2
 have i2 := row_2_0
 go_enter Tryz.func16, Tryz.ntmps16
 go_wp2_with (first | (go_at_call 33; refine (table_any _).mono ?_; rintro e w' ⟨rfl, hb⟩) | go_in)
 go_ret
 exact ⟨rfl, by assumption⟩
set_option maxHeartbeats 400000 in
set_option maxRecDepth 100000 in
theorem rmay_2_1 (w : World) : Calls Tryz.prog 16 #[.int .i64 2, .int .i64 1] w fun e w' => e = .returned (.bool true) ∧ Below w.heap.size w w' := by
 have i1 := tbl_2
 have i2 := row_2_1
 go_enter Tryz.func16, Tryz.ntmps16
 go_wp2_with (first | (go_at_call 33; refine (table_any _).mono ?_; rintro e w' ⟨rfl, hb⟩) | go_in)
 go_ret
 exact ⟨rfl, by assumption⟩
set_option maxHeartbeats 400000 in
set_option maxRecDepth 100000 in
theorem rmay_2_2 (w : World) : Calls Tryz.prog 16 #[.int .i64 2, .int .i64 2] w fun e w' => e = .returned (.bool true) ∧ Below w.heap.size w w' := by
 have i1 := tbl_2
 have i2 := row_2_2
 go_enter Tryz.func16, Tryz.ntmps16
 go_wp2_with (first | (go_at_call 33; refine (table_any _).mono ?_; rintro e w' ⟨rfl, hb⟩) | go_in)
 go_ret
 exact ⟨rfl, by assumption⟩
set_option maxHeartbeats 400000 in
set_option maxRecDepth 100000 in
theorem rmay_2_3 (w : World) : Calls Tryz.prog 16 #[.int .i64 2, .int .i64 3] w fun e w' => e = .returned (.bool true) ∧ Below w.heap.size w w' := by
 have i1 := tbl_2
 have i2 := row_2_3
 go_enter Tryz.func16, Tryz.ntmps16
 go_wp2_with (first | (go_at_call 33; refine (table_any _).mono ?_; rintro e w' ⟨rfl, hb⟩) | go_in)
 go_ret
 exact ⟨rfl, by assumption⟩
set_option maxHeartbeats 400000 in
set_option maxRecDepth 100000 in
theorem rmay_2_4 (w : World) : Calls Tryz.prog 16 #[.int .i64 2, .int .i64 4] w fun e w' => e = .returned (.bool true) ∧ Below w.heap.size w w' := by
 have i1 := tbl_2
 have i2 := row_2_4
 go_enter Tryz.func16, Tryz.ntmps16
 go_wp2_with (first | (go_at_call 33; refine (table_any _).mono ?_; rintro e w' ⟨rfl, hb⟩) | go_in)
 go_ret
 exact ⟨rfl, by assumption⟩
set_option maxHeartbeats 400000 in
set_option maxRecDepth 100000 in
theorem rmay_2_5 (w : World) : Calls Tryz.prog 16 #[.int .i64 2, .int .i64 5] w fun e w' => e = .returned (.bool true) ∧ Below w.heap.size w w' := by
 have i1 := tbl_2
 have i2 := row_2_5
 go_enter Tryz.func16, Tryz.ntmps16
 go_wp2_with (first | (go_at_call 33; refine (table_any _).mono ?_; rintro e w' ⟨rfl, hb⟩) | go_in)
 go_ret
 exact ⟨rfl, by assumption⟩
set_option maxHeartbeats 400000 in
set_option maxRecDepth 100000 in
theorem rmay_2_6 (w : World) : Calls Tryz.prog 16 #[.int .i64 2, .int .i64 6] w fun e w' => e = .returned (.bool true) ∧ Below w.heap.size w w' := by
 have i1 := tbl_2
 have i2 := row_2_6
 go_enter Tryz.func16, Tryz.ntmps16
 go_wp2_with (first | (go_at_call 33; refine (table_any _).mono ?_; rintro e w' ⟨rfl, hb⟩) | go_in)
 go_ret
 exact ⟨rfl, by assumption⟩
set_option maxHeartbeats 400000 in
set_option maxRecDepth 100000 in
theorem rmay_2_7 (w : World) : Calls Tryz.prog 16 #[.int .i64 2, .int .i64 7] w fun e w' => e = .returned (.bool true) ∧ Below w.heap.size w w' := by
 have i1 := tbl_2
 have i2 := row_2_7
 go_enter Tryz.func16, Tryz.ntmps16
 go_wp2_with (first | (go_at_call 33; refine (table_any _).mono ?_; rintro e w' ⟨rfl, hb⟩) | go_in)
 go_ret
 exact ⟨rfl, by assumption⟩
set_option maxHeartbeats 400000 in
set_option maxRecDepth 100000 in
theorem rmay_3_0 (w : World) : Calls Tryz.prog 16 #[.int .i64 3, .int .i64 0] w fun e w' => e = .returned (.bool true) ∧ Below w.heap.size w w' := by
 have i1 := tbl_3
 have i2 := row_3_0
 go_enter Tryz.func16, Tryz.ntmps16
 go_wp2_with (first | (go_at_call 33; refine (table_any _).mono ?_; rintro e w' ⟨rfl, hb⟩) | go_in)
 go_ret
 exact ⟨rfl, by assumption⟩
set_option maxHeartbeats 400000 in
set_option maxRecDepth 100000 in
theorem rmay_3_1 (w : World) : Calls Tryz.prog 16 #[.int .i64 3, .int .i64 1] w fun e w' => e = .returned (.bool false) ∧ Below w.heap.size w w' := by
 have i1 := tbl_3
 have i2 := row_3_1
 go_enter Tryz.func16, Tryz.ntmps16
 go_wp2_with (first | (go_at_call 33; refine (table_any _).mono ?_; rintro e w' ⟨rfl, hb⟩) | go_in)
 go_ret
 exact ⟨rfl, by assumption⟩
set_option maxHeartbeats 400000 in
set_option maxRecDepth 100000 in
theorem rmay_3_2 (w : World) : Calls Tryz.prog 16 #[.int .i64 3, .int .i64 2] w fun e w' => e = .returned (.bool false) ∧ Below w.heap.size w w' := by
 have i1 := tbl_3
 have i2 := row_3_2
 go_enter Tryz.func16, Tryz.ntmps16
 go_wp2_with (first | (go_at_call 33; refine (table_any _).mono ?_; rintro e w' ⟨rfl, hb⟩) | go_in)
 go_ret
 exact ⟨rfl, by assumption⟩
set_option maxHeartbeats 400000 in
set_option maxRecDepth 100000 in
theorem rmay_3_3 (w : World) : Calls Tryz.prog 16 #[.int .i64 3, .int .i64 3] w fun e w' => e = .returned (.bool false) ∧ Below w.heap.size w w' := by
 have i1 := tbl_3
 have i2 := row_3_3
 go_enter Tryz.func16, Tryz.ntmps16
 go_wp2_with (first | (go_at_call 33; refine (table_any _).mono ?_; rintro e w' ⟨rfl, hb⟩) | go_in)
 go_ret
 exact ⟨rfl, by assumption⟩
set_option maxHeartbeats 400000 in
set_option maxRecDepth 100000 in
theorem rmay_3_4 (w : World) : Calls Tryz.prog 16 #[.int .i64 3, .int .i64 4] w fun e w' => e = .returned (.bool false) ∧ Below w.heap.size w w' := by
 have i1 := tbl_3
 have i2 := row_3_4
 go_enter Tryz.func16, Tryz.ntmps16
 go_wp2_with (first | (go_at_call 33; refine (table_any _).mono ?_; rintro e w' ⟨rfl, hb⟩) | go_in)
 go_ret
 exact ⟨rfl, by assumption⟩
set_option maxHeartbeats 400000 in
set_option maxRecDepth 100000 in
theorem rmay_3_5 (w : World) : Calls Tryz.prog 16 #[.int .i64 3, .int .i64 5] w fun e w' => e = .returned (.bool true) ∧ Below w.heap.size w w' := by
 have i1 := tbl_3
 have i2 := row_3_5
 go_enter Tryz.func16, Tryz.ntmps16
 go_wp2_with (first | (go_at_call 33; refine (table_any _).mono ?_; rintro e w' ⟨rfl, hb⟩) | go_in)
 go_ret
 exact ⟨rfl, by assumption⟩
set_option maxHeartbeats 400000 in
set_option maxRecDepth 100000 in
theorem rmay_3_6 (w : World) : Calls Tryz.prog 16 #[.int .i64 3, .int .i64 6] w fun e w' => e = .returned (.bool true) ∧ Below w.heap.size w w' := by
 have i1 := tbl_3
 have i2 := row_3_6
 go_enter Tryz.func16, Tryz.ntmps16
 go_wp2_with (first | (go_at_call 33; refine (table_any _).mono ?_; rintro e w' ⟨rfl, hb⟩) | go_in)
 go_ret
 exact ⟨rfl, by assumption⟩
set_option maxHeartbeats 400000 in
set_option maxRecDepth 100000 in
theorem rmay_3_7 (w : World) : Calls Tryz.prog 16 #[.int .i64 3, .int .i64 7] w fun e w' => e = .returned (.bool true) ∧ Below w.heap.size w w' := by
 have i1 := tbl_3
 have i2 := row_3_7
 go_enter Tryz.func16, Tryz.ntmps16
 go_wp2_with (first | (go_at_call 33; refine (table_any _).mono ?_; rintro e w' ⟨rfl, hb⟩) | go_in)
 go_ret
 exact ⟨rfl, by assumption⟩
set_option maxHeartbeats 400000 in
set_option maxRecDepth 100000 in
theorem rmay_no (r c : Int) (w : World) (h : ¬ (0 ≤ r ∧ r < 4 ∧ 0 ≤ c ∧ c < 8)) : Calls Tryz.prog 16 #[.int .i64 r, .int .i64 c] w fun e w' => e = .returned (.bool false) ∧ w' = w := by
 by_cases h0 : 0 ≤ r
 ·by_cases h1 : r < 4
  ·by_cases h2 : 0 ≤ c
   ·have h3 : 8 ≤ c := by omega
    clear h
    go_enter Tryz.func16, Tryz.ntmps16
    go_wp2
    go_ret
    exact ⟨rfl, rfl⟩
   ·have h3 : c < 0 := by omega
    clear h h2
    go_enter Tryz.func16, Tryz.ntmps16
    go_wp2
    go_ret
    exact ⟨rfl, rfl⟩
  ·have h3 : 4 ≤ r := by omega
   clear h h1
   go_enter Tryz.func16, Tryz.ntmps16
   go_wp2
   go_ret
   exact ⟨rfl, rfl⟩
 ·have h3 : r < 0 := by omega
  clear h h0
  go_enter Tryz.func16, Tryz.ntmps16
  go_wp2
  go_ret
  exact ⟨rfl, rfl⟩
theorem role_May.calls (a0 : Int) (a1 : Int) (r : Bool) (w : World) (h : role_May.f a0 a1 = some r) :
  Calls Tryz.prog 16 #[.int .i64 a0, .int .i64 a1] w fun e w' => e = .returned (.bool r) ∧ Below w.heap.size w w' := by
 obtain rfl : mayR a0 a1 = r := Option.some.inj h
 by_cases hin : 0 ≤ a0 ∧ a0 < 4 ∧ 0 ≤ a1 ∧ a1 < 8
 ·have hr : a0 = 0 ∨ a0 = 1 ∨ a0 = 2 ∨ a0 = 3 := by omega
  have hc : a1 = 0 ∨ a1 = 1 ∨ a1 = 2 ∨ a1 = 3 ∨ a1 = 4 ∨ a1 = 5 ∨ a1 = 6 ∨ a1 = 7 := by omega
  rcases hr with rfl | rfl | rfl | rfl
  ·rcases hc with rfl | rfl | rfl | rfl | rfl | rfl | rfl | rfl
   ·exact rmay_0_0 w
   ·exact rmay_0_1 w
   ·exact rmay_0_2 w
   ·exact rmay_0_3 w
   ·exact rmay_0_4 w
   ·exact rmay_0_5 w
   ·exact rmay_0_6 w
   ·exact rmay_0_7 w
  ·rcases hc with rfl | rfl | rfl | rfl | rfl | rfl | rfl | rfl
   ·exact rmay_1_0 w
   ·exact rmay_1_1 w
   ·exact rmay_1_2 w
   ·exact rmay_1_3 w
   ·exact rmay_1_4 w
   ·exact rmay_1_5 w
   ·exact rmay_1_6 w
   ·exact rmay_1_7 w
  ·rcases hc with rfl | rfl | rfl | rfl | rfl | rfl | rfl | rfl
   ·exact rmay_2_0 w
   ·exact rmay_2_1 w
   ·exact rmay_2_2 w
   ·exact rmay_2_3 w
   ·exact rmay_2_4 w
   ·exact rmay_2_5 w
   ·exact rmay_2_6 w
   ·exact rmay_2_7 w
  ·rcases hc with rfl | rfl | rfl | rfl | rfl | rfl | rfl | rfl
   ·exact rmay_3_0 w
   ·exact rmay_3_1 w
   ·exact rmay_3_2 w
   ·exact rmay_3_3 w
   ·exact rmay_3_4 w
   ·exact rmay_3_5 w
   ·exact rmay_3_6 w
   ·exact rmay_3_7 w
 ·have e : mayR a0 a1 = false := by unfold mayR; rw [if_neg hin]
  rw [e]
  refine (rmay_no a0 a1 w hin).mono ?_
  rintro e w' ⟨rfl, rfl⟩
  exact ⟨rfl, Below.refl _ _⟩
end Go.Proofs.YtdinphnljokigaaGreat.P
end
