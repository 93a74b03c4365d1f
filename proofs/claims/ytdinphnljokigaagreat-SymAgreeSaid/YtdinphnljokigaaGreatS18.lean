/- What LawSymAgree rests on, part 18: several texts put together. -/
import Derived.Test.YtdinphnljokigaaGreatS11
import Derived.Laws.Tables
import Derived.Laws.Rows
import Derived.Laws.CopyOwn
import Derived.Test.YtdinphnljokigaaGreatS16
import Derived.Test.YtdinphnljokigaaGreatS17
import Derived.Test.YtdinphnljokigaaGreatS3
set_option linter.unusedVariables false
set_option linter.unnecessarySimpa false
set_option linter.unusedSimpArgs false
set_option maxRecDepth 100000
section
namespace Go.Proofs.YtdinphnljokigaaGreat.P
open Go.RowKit Go.Proofs.YtdinphnljokigaaGreatW.PrintWords Go.Proofs.YtdinphnljokigaaGreatW.PrintLast Go.Proofs.YtdinphnljokigaaGreatW.PrintMore
def rowL : Nat → List Int
 | 0 => [1, 0, 0, 0, 0, 0, 0, 1]
 | 1 => [1, 1, 1, 1, 0, 0, 0, 1]
 | 2 => [1, 1, 1, 1, 1, 1, 1, 1]
 | _ => [1, 0, 0, 0, 0, 1, 1, 1]
def intsV (l : List Int) : Value := .agg (l.map (Value.int .i64)).toArray
def tblV : Value := intsV (rowL 0 ++ rowL 1 ++ rowL 2 ++ rowL 3)
theorem row_0_0 (w : World) : (Instr.index 79 (intsV (rowL 0)) (.int .i64 0)).run Tryz.prog w = .ok (.int .i64 1) w := by kernel_rfl
theorem row_0_1 (w : World) : (Instr.index 79 (intsV (rowL 0)) (.int .i64 1)).run Tryz.prog w = .ok (.int .i64 0) w := by kernel_rfl
theorem row_0_2 (w : World) : (Instr.index 79 (intsV (rowL 0)) (.int .i64 2)).run Tryz.prog w = .ok (.int .i64 0) w := by kernel_rfl
theorem row_0_3 (w : World) : (Instr.index 79 (intsV (rowL 0)) (.int .i64 3)).run Tryz.prog w = .ok (.int .i64 0) w := by kernel_rfl
theorem row_0_4 (w : World) : (Instr.index 79 (intsV (rowL 0)) (.int .i64 4)).run Tryz.prog w = .ok (.int .i64 0) w := by kernel_rfl
theorem row_0_5 (w : World) : (Instr.index 79 (intsV (rowL 0)) (.int .i64 5)).run Tryz.prog w = .ok (.int .i64 0) w := by kernel_rfl
theorem row_0_6 (w : World) : (Instr.index 79 (intsV (rowL 0)) (.int .i64 6)).run Tryz.prog w = .ok (.int .i64 0) w := by kernel_rfl
theorem row_0_7 (w : World) : (Instr.index 79 (intsV (rowL 0)) (.int .i64 7)).run Tryz.prog w = .ok (.int .i64 1) w := by kernel_rfl
theorem row_1_0 (w : World) : (Instr.index 79 (intsV (rowL 1)) (.int .i64 0)).run Tryz.prog w = .ok (.int .i64 1) w := by kernel_rfl
theorem row_1_1 (w : World) : (Instr.index 79 (intsV (rowL 1)) (.int .i64 1)).run Tryz.prog w = .ok (.int .i64 1) w := by kernel_rfl
theorem row_1_2 (w : World) : (Instr.index 79 (intsV (rowL 1)) (.int .i64 2)).run Tryz.prog w = .ok (.int .i64 1) w := by kernel_rfl
theorem row_1_3 (w : World) : (Instr.index 79 (intsV (rowL 1)) (.int .i64 3)).run Tryz.prog w = .ok (.int .i64 1) w := by kernel_rfl
theorem row_1_4 (w : World) : (Instr.index 79 (intsV (rowL 1)) (.int .i64 4)).run Tryz.prog w = .ok (.int .i64 0) w := by kernel_rfl
theorem row_1_5 (w : World) : (Instr.index 79 (intsV (rowL 1)) (.int .i64 5)).run Tryz.prog w = .ok (.int .i64 0) w := by kernel_rfl
theorem row_1_6 (w : World) : (Instr.index 79 (intsV (rowL 1)) (.int .i64 6)).run Tryz.prog w = .ok (.int .i64 0) w := by kernel_rfl
theorem row_1_7 (w : World) : (Instr.index 79 (intsV (rowL 1)) (.int .i64 7)).run Tryz.prog w = .ok (.int .i64 1) w := by kernel_rfl
theorem row_2_0 (w : World) : (Instr.index 79 (intsV (rowL 2)) (.int .i64 0)).run Tryz.prog w = .ok (.int .i64 1) w := by kernel_rfl
theorem row_2_1 (w : World) : (Instr.index 79 (intsV (rowL 2)) (.int .i64 1)).run Tryz.prog w = .ok (.int .i64 1) w := by kernel_rfl
theorem row_2_2 (w : World) : (Instr.index 79 (intsV (rowL 2)) (.int .i64 2)).run Tryz.prog w = .ok (.int .i64 1) w := by kernel_rfl
theorem row_2_3 (w : World) : (Instr.index 79 (intsV (rowL 2)) (.int .i64 3)).run Tryz.prog w = .ok (.int .i64 1) w := by kernel_rfl
theorem row_2_4 (w : World) : (Instr.index 79 (intsV (rowL 2)) (.int .i64 4)).run Tryz.prog w = .ok (.int .i64 1) w := by kernel_rfl
theorem row_2_5 (w : World) : (Instr.index 79 (intsV (rowL 2)) (.int .i64 5)).run Tryz.prog w = .ok (.int .i64 1) w := by kernel_rfl
theorem row_2_6 (w : World) : (Instr.index 79 (intsV (rowL 2)) (.int .i64 6)).run Tryz.prog w = .ok (.int .i64 1) w := by kernel_rfl
theorem row_2_7 (w : World) : (Instr.index 79 (intsV (rowL 2)) (.int .i64 7)).run Tryz.prog w = .ok (.int .i64 1) w := by kernel_rfl
theorem row_3_0 (w : World) : (Instr.index 79 (intsV (rowL 3)) (.int .i64 0)).run Tryz.prog w = .ok (.int .i64 1) w := by kernel_rfl
theorem row_3_1 (w : World) : (Instr.index 79 (intsV (rowL 3)) (.int .i64 1)).run Tryz.prog w = .ok (.int .i64 0) w := by kernel_rfl
theorem row_3_2 (w : World) : (Instr.index 79 (intsV (rowL 3)) (.int .i64 2)).run Tryz.prog w = .ok (.int .i64 0) w := by kernel_rfl
theorem row_3_3 (w : World) : (Instr.index 79 (intsV (rowL 3)) (.int .i64 3)).run Tryz.prog w = .ok (.int .i64 0) w := by kernel_rfl
theorem row_3_4 (w : World) : (Instr.index 79 (intsV (rowL 3)) (.int .i64 4)).run Tryz.prog w = .ok (.int .i64 0) w := by kernel_rfl
theorem row_3_5 (w : World) : (Instr.index 79 (intsV (rowL 3)) (.int .i64 5)).run Tryz.prog w = .ok (.int .i64 1) w := by kernel_rfl
theorem row_3_6 (w : World) : (Instr.index 79 (intsV (rowL 3)) (.int .i64 6)).run Tryz.prog w = .ok (.int .i64 1) w := by kernel_rfl
theorem row_3_7 (w : World) : (Instr.index 79 (intsV (rowL 3)) (.int .i64 7)).run Tryz.prog w = .ok (.int .i64 1) w := by kernel_rfl
theorem tbl_0 (w : World) : (Instr.index 80 tblV (.int .i64 0)).run Tryz.prog w = .ok (intsV (rowL 0)) w := by kernel_rfl
theorem tbl_1 (w : World) : (Instr.index 80 tblV (.int .i64 1)).run Tryz.prog w = .ok (intsV (rowL 1)) w := by kernel_rfl
theorem tbl_2 (w : World) : (Instr.index 80 tblV (.int .i64 2)).run Tryz.prog w = .ok (intsV (rowL 2)) w := by kernel_rfl
theorem tbl_3 (w : World) : (Instr.index 80 tblV (.int .i64 3)).run Tryz.prog w = .ok (intsV (rowL 3)) w := by kernel_rfl
set_option maxHeartbeats 400000 in
set_option maxRecDepth 100000 in
theorem table_any (w : World) : Calls Tryz.prog 33 #[] w fun e w' => e = .returned tblV ∧ Below w.heap.size w w' := by
 go_enter Tryz.func33, Tryz.ntmps33
 go_upto_region 1 with (fail)
 apply wp_region_lit
 refine wpList_build rfl _ _ rfl (by as_aux_lemma => kernel_rfl) ?_
 refine wpList_build rfl _ _ rfl (by as_aux_lemma => kernel_rfl) ?_
 refine wpList_build rfl _ _ rfl (by as_aux_lemma => kernel_rfl) ?_
 refine wpList_build rfl _ _ rfl (by as_aux_lemma => kernel_rfl) ?_
 refine wpList_build rfl _ _ rfl (by as_aux_lemma => kernel_rfl) ?_
 refine wpList_store_row rfl 80 (.tmp 0) (.tmp 5) rfl w.heap.size (((rowL 0 ++ rowL 1 ++ rowL 2 ++ rowL 3)).map (Value.int .i64)).toArray (by as_aux_lemma => kernel_rfl) (by as_aux_lemma => kernel_rfl) 80 _ (heap_alloc_new _ _) (by as_aux_lemma => kernel_rfl) (by as_aux_lemma => kernel_rfl) (by as_aux_lemma => kernel_rfl) ?_
 apply wpList_nil
 refine ‹∀ (a : Act) (w : World), Code.wp _ _ _ a w → _› _ _ ?_
 refine wp_ret ?_
 refine bodyPost_ret (v := tblV) (results_cell_row rfl _ _ w.heap.size 80 _ _ _ (by as_aux_lemma => kernel_rfl) (setRow_heap _ _ _ _ _ _ (heap_alloc_new _ _)) Tryz.underlying80 rfl (by as_aux_lemma => kernel_rfl)) rfl ⟨rfl, below_setRow ((Below.refl _ _).alloc (Nat.le_refl _) _) (Nat.le_refl _) _⟩
def mayR (r c : Int) : Bool := if 0 ≤ r ∧ r < 4 ∧ 0 ≤ c ∧ c < 8 then (rowL r.toNat).getD c.toNat 0 != 0 else false
def role_May.f (a0 : Int) (a1 : Int) : Option (Bool) := some (mayR a0 a1)
set_option maxHeartbeats 400000 in
set_option maxRecDepth 100000 in
theorem rmay_0_0 (w : World) : Calls Tryz.prog 16 #[.int .i64 0, .int .i64 0] w fun e w' => e = .returned (.bool true) ∧ Below w.heap.size w w' := by
 have i1 := tbl_0
 have i2 := row_0_0
 go_enter Tryz.func16, Tryz.ntmps16
 go_wp2_with (first | (go_at_call 33; refine (table_any _).mono ?_; rintro e w' ⟨rfl, hb⟩) | go_in)
 go_ret
 exact ⟨rfl, by assumption⟩
set_option maxHeartbeats 400000 in
set_option maxRecDepth 100000 in
theorem rmay_0_1 (w : World) : Calls Tryz.prog 16 #[.int .i64 0, .int .i64 1] w fun e w' => e = .returned (.bool false) ∧ Below w.heap.size w w' := by
 have i1 := tbl_0
 have i2 := row_0_1
 go_enter Tryz.func16, Tryz.ntmps16
 go_wp2_with (first | (go_at_call 33; refine (table_any _).mono ?_; rintro e w' ⟨rfl, hb⟩) | go_in)
 go_ret
 exact ⟨rfl, by assumption⟩
set_option maxHeartbeats 400000 in
set_option maxRecDepth 100000 in
theorem rmay_0_2 (w : World) : Calls Tryz.prog 16 #[.int .i64 0, .int .i64 2] w fun e w' => e = .returned (.bool false) ∧ Below w.heap.size w w' := by
 have i1 := tbl_0
 have i2 := row_0_2
 go_enter Tryz.func16, Tryz.ntmps16
 go_wp2_with (first | (go_at_call 33; refine (table_any _).mono ?_; rintro e w' ⟨rfl, hb⟩) | go_in)
 go_ret
 exact ⟨rfl, by assumption⟩
set_option maxHeartbeats 400000 in
set_option maxRecDepth 100000 in
theorem rmay_0_3 (w : World) : Calls Tryz.prog 16 #[.int .i64 0, .int .i64 3] w fun e w' => e = .returned (.bool false) ∧ Below w.heap.size w w' := by
 have i1 := tbl_0
 have i2 := row_0_3
 go_enter Tryz.func16, Tryz.ntmps16
 go_wp2_with (first | (go_at_call 33; refine (table_any _).mono ?_; rintro e w' ⟨rfl, hb⟩) | go_in)
 go_ret
 exact ⟨rfl, by assumption⟩
set_option maxHeartbeats 400000 in
set_option maxRecDepth 100000 in
theorem rmay_0_4 (w : World) : Calls Tryz.prog 16 #[.int .i64 0, .int .i64 4] w fun e w' => e = .returned (.bool false) ∧ Below w.heap.size w w' := by
 have i1 := tbl_0
 have i2 := row_0_4
 go_enter Tryz.func16, Tryz.ntmps16
 go_wp2_with (first | (go_at_call 33; refine (table_any _).mono ?_; rintro e w' ⟨rfl, hb⟩) | go_in)
 go_ret
 exact ⟨rfl, by assumption⟩
set_option maxHeartbeats 400000 in
set_option maxRecDepth 100000 in
theorem rmay_0_5 (w : World) : Calls Tryz.prog 16 #[.int .i64 0, .int .i64 5] w fun e w' => e = .returned (.bool false) ∧ Below w.heap.size w w' := by
 have i1 := tbl_0
 have i2 := row_0_5
 go_enter Tryz.func16, Tryz.ntmps16
 go_wp2_with (first | (go_at_call 33; refine (table_any _).mono ?_; rintro e w' ⟨rfl, hb⟩) | go_in)
 go_ret
 exact ⟨rfl, by assumption⟩
set_option maxHeartbeats 400000 in
set_option maxRecDepth 100000 in
theorem rmay_0_6 (w : World) : Calls Tryz.prog 16 #[.int .i64 0, .int .i64 6] w fun e w' => e = .returned (.bool false) ∧ Below w.heap.size w w' := by
 have i1 := tbl_0
 have i2 := row_0_6
 go_enter Tryz.func16, Tryz.ntmps16
 go_wp2_with (first | (go_at_call 33; refine (table_any _).mono ?_; rintro e w' ⟨rfl, hb⟩) | go_in)
 go_ret
 exact ⟨rfl, by assumption⟩
set_option maxHeartbeats 400000 in
set_option maxRecDepth 100000 in
theorem rmay_0_7 (w : World) : Calls Tryz.prog 16 #[.int .i64 0, .int .i64 7] w fun e w' => e = .returned (.bool true) ∧ Below w.heap.size w w' := by
 have i1 := tbl_0
 have i2 := row_0_7
 go_enter Tryz.func16, Tryz.ntmps16
 go_wp2_with (first | (go_at_call 33; refine (table_any _).mono ?_; rintro e w' ⟨rfl, hb⟩) | go_in)
 go_ret
 exact ⟨rfl, by assumption⟩
set_option maxHeartbeats 400000 in
set_option maxRecDepth 100000 in
theorem rmay_1_0 (w : World) : Calls Tryz.prog 16 #[.int .i64 1, .int .i64 0] w fun e w' => e = .returned (.bool true) ∧ Below w.heap.size w w' := by
 have i1 := tbl_1
 have i2 := row_1_0
 go_enter Tryz.func16, Tryz.ntmps16
 go_wp2_with (first | (go_at_call 33; refine (table_any _).mono ?_; rintro e w' ⟨rfl, hb⟩) | go_in)
 go_ret
 exact ⟨rfl, by assumption⟩
set_option maxHeartbeats 400000 in
set_option maxRecDepth 100000 in
theorem rmay_1_1 (w : World) : Calls Tryz.prog 16 #[.int .i64 1, .int .i64 1] w fun e w' => e = .returned (.bool true) ∧ Below w.heap.size w w' := by
 have i1 := tbl_1
 have i2 := row_1_1
 go_enter Tryz.func16, Tryz.ntmps16
 go_wp2_with (first | (go_at_call 33; refine (table_any _).mono ?_; rintro e w' ⟨rfl, hb⟩) | go_in)
 go_ret
 exact ⟨rfl, by assumption⟩
set_option maxHeartbeats 400000 in
set_option maxRecDepth 100000 in
theorem rmay_1_2 (w : World) : Calls Tryz.prog 16 #[.int .i64 1, .int .i64 2] w fun e w' => e = .returned (.bool true) ∧ Below w.heap.size w w' := by
 have i1 := tbl_1
 have i2 := row_1_2
 go_enter Tryz.func16, Tryz.ntmps16
 go_wp2_with (first | (go_at_call 33; refine (table_any _).mono ?_; rintro e w' ⟨rfl, hb⟩) | go_in)
 go_ret
 exact ⟨rfl, by assumption⟩
set_option maxHeartbeats 400000 in
set_option maxRecDepth 100000 in
theorem rmay_1_3 (w : World) : Calls Tryz.prog 16 #[.int .i64 1, .int .i64 3] w fun e w' => e = .returned (.bool true) ∧ Below w.heap.size w w' := by
 have i1 := tbl_1
 have i2 := row_1_3
 go_enter Tryz.func16, Tryz.ntmps16
 go_wp2_with (first | (go_at_call 33; refine (table_any _).mono ?_; rintro e w' ⟨rfl, hb⟩) | go_in)
 go_ret
 exact ⟨rfl, by assumption⟩
set_option maxHeartbeats 400000 in
set_option maxRecDepth 100000 in
theorem rmay_1_4 (w : World) : Calls Tryz.prog 16 #[.int .i64 1, .int .i64 4] w fun e w' => e = .returned (.bool false) ∧ Below w.heap.size w w' := by
 have i1 := tbl_1
 have i2 := row_1_4
 go_enter Tryz.func16, Tryz.ntmps16
 go_wp2_with (first | (go_at_call 33; refine (table_any _).mono ?_; rintro e w' ⟨rfl, hb⟩) | go_in)
 go_ret
 exact ⟨rfl, by assumption⟩
set_option maxHeartbeats 400000 in
set_option maxRecDepth 100000 in
theorem rmay_1_5 (w : World) : Calls Tryz.prog 16 #[.int .i64 1, .int .i64 5] w fun e w' => e = .returned (.bool false) ∧ Below w.heap.size w w' := by
 have i1 := tbl_1
 have i2 := row_1_5
 go_enter Tryz.func16, Tryz.ntmps16
 go_wp2_with (first | (go_at_call 33; refine (table_any _).mono ?_; rintro e w' ⟨rfl, hb⟩) | go_in)
 go_ret
 exact ⟨rfl, by assumption⟩
set_option maxHeartbeats 400000 in
set_option maxRecDepth 100000 in
theorem rmay_1_6 (w : World) : Calls Tryz.prog 16 #[.int .i64 1, .int .i64 6] w fun e w' => e = .returned (.bool false) ∧ Below w.heap.size w w' := by
 have i1 := tbl_1
 have i2 := row_1_6
 go_enter Tryz.func16, Tryz.ntmps16
 go_wp2_with (first | (go_at_call 33; refine (table_any _).mono ?_; rintro e w' ⟨rfl, hb⟩) | go_in)
 go_ret
 exact ⟨rfl, by assumption⟩
set_option maxHeartbeats 400000 in
set_option maxRecDepth 100000 in
theorem rmay_1_7 (w : World) : Calls Tryz.prog 16 #[.int .i64 1, .int .i64 7] w fun e w' => e = .returned (.bool true) ∧ Below w.heap.size w w' := by
 have i1 := tbl_1
 have i2 := row_1_7
 go_enter Tryz.func16, Tryz.ntmps16
 go_wp2_with (first | (go_at_call 33; refine (table_any _).mono ?_; rintro e w' ⟨rfl, hb⟩) | go_in)
 go_ret
 exact ⟨rfl, by assumption⟩
set_option maxHeartbeats 400000 in
set_option maxRecDepth 100000 in
theorem rmay_2_0 (w : World) : Calls Tryz.prog 16 #[.int .i64 2, .int .i64 0] w fun e w' => e = .returned (.bool true) ∧ Below w.heap.size w w' := by
 have i1 := tbl_2
 have i2 := row_2_0
 go_enter Tryz.func16, Tryz.ntmps16
 go_wp2_with (first | (go_at_call 33; refine (table_any _).mono ?_; rintro e w' ⟨rfl, hb⟩) | go_in)
 go_ret
 exact ⟨rfl, by assumption⟩
set_option maxHeartbeats 400000 in
set_option maxRecDepth 100000 in
theorem rmay_2_1 (w : World) : Calls Tryz.prog 16 #[.int .i64 2, .int .i64 1] w fun e w' => e = .returned (.bool true) ∧ Below w.heap.size w w' := by
 have i1 := tbl_2
 have i2 := row_2_1
 go_enter Tryz.func16, Tryz.ntmps16
 go_wp2_with (first | (go_at_call 33; refine (table_any _).mono ?_; rintro e w' ⟨rfl, hb⟩) | go_in)
 go_ret
 exact ⟨rfl, by assumption⟩
set_option maxHeartbeats 400000 in
set_option maxRecDepth 100000 in
theorem rmay_2_2 (w : World) : Calls Tryz.prog 16 #[.int .i64 2, .int .i64 2] w fun e w' => e = .returned (.bool true) ∧ Below w.heap.size w w' := by
 have i1 := tbl_2
 have i2 := row_2_2
 go_enter Tryz.func16, Tryz.ntmps16
 go_wp2_with (first | (go_at_call 33; refine (table_any _).mono ?_; rintro e w' ⟨rfl, hb⟩) | go_in)
 go_ret
 exact ⟨rfl, by assumption⟩
set_option maxHeartbeats 400000 in
set_option maxRecDepth 100000 in
theorem rmay_2_3 (w : World) : Calls Tryz.prog 16 #[.int .i64 2, .int .i64 3] w fun e w' => e = .returned (.bool true) ∧ Below w.heap.size w w' := by
 have i1 := tbl_2
 have i2 := row_2_3
 go_enter Tryz.func16, Tryz.ntmps16
 go_wp2_with (first | (go_at_call 33; refine (table_any _).mono ?_; rintro e w' ⟨rfl, hb⟩) | go_in)
 go_ret
 exact ⟨rfl, by assumption⟩
set_option maxHeartbeats 400000 in
set_option maxRecDepth 100000 in
theorem rmay_2_4 (w : World) : Calls Tryz.prog 16 #[.int .i64 2, .int .i64 4] w fun e w' => e = .returned (.bool true) ∧ Below w.heap.size w w' := by
 have i1 := tbl_2
 have i2 := row_2_4
 go_enter Tryz.func16, Tryz.ntmps16
 go_wp2_with (first | (go_at_call 33; refine (table_any _).mono ?_; rintro e w' ⟨rfl, hb⟩) | go_in)
 go_ret
 exact ⟨rfl, by assumption⟩
set_option maxHeartbeats 400000 in
set_option maxRecDepth 100000 in
theorem rmay_2_5 (w : World) : Calls Tryz.prog 16 #[.int .i64 2, .int .i64 5] w fun e w' => e = .returned (.bool true) ∧ Below w.heap.size w w' := by
 have i1 := tbl_2
 have i2 := row_2_5
 go_enter Tryz.func16, Tryz.ntmps16
 go_wp2_with (first | (go_at_call 33; refine (table_any _).mono ?_; rintro e w' ⟨rfl, hb⟩) | go_in)
 go_ret
 exact ⟨rfl, by assumption⟩
set_option maxHeartbeats 400000 in
set_option maxRecDepth 100000 in
theorem rmay_2_6 (w : World) : Calls Tryz.prog 16 #[.int .i64 2, .int .i64 6] w fun e w' => e = .returned (.bool true) ∧ Below w.heap.size w w' := by
 have i1 := tbl_2
 have i2 := row_2_6
 go_enter Tryz.func16, Tryz.ntmps16
 go_wp2_with (first | (go_at_call 33; refine (table_any _).mono ?_; rintro e w' ⟨rfl, hb⟩) | go_in)
 go_ret
 exact ⟨rfl, by assumption⟩
set_option maxHeartbeats 400000 in
set_option maxRecDepth 100000 in
theorem rmay_2_7 (w : World) : Calls Tryz.prog 16 #[.int .i64 2, .int .i64 7] w fun e w' => e = .returned (.bool true) ∧ Below w.heap.size w w' := by
 have i1 := tbl_2
 have i2 := row_2_7
 go_enter Tryz.func16, Tryz.ntmps16
 go_wp2_with (first | (go_at_call 33; refine (table_any _).mono ?_; rintro e w' ⟨rfl, hb⟩) | go_in)
 go_ret
 exact ⟨rfl, by assumption⟩
set_option maxHeartbeats 400000 in
set_option maxRecDepth 100000 in
theorem rmay_3_0 (w : World) : Calls Tryz.prog 16 #[.int .i64 3, .int .i64 0] w fun e w' => e = .returned (.bool true) ∧ Below w.heap.size w w' := by
 have i1 := tbl_3
 have i2 := row_3_0
 go_enter Tryz.func16, Tryz.ntmps16
 go_wp2_with (first | (go_at_call 33; refine (table_any _).mono ?_; rintro e w' ⟨rfl, hb⟩) | go_in)
 go_ret
 exact ⟨rfl, by assumption⟩
set_option maxHeartbeats 400000 in
set_option maxRecDepth 100000 in
theorem rmay_3_1 (w : World) : Calls Tryz.prog 16 #[.int .i64 3, .int .i64 1] w fun e w' => e = .returned (.bool false) ∧ Below w.heap.size w w' := by
 have i1 := tbl_3
 have i2 := row_3_1
 go_enter Tryz.func16, Tryz.ntmps16
 go_wp2_with (first | (go_at_call 33; refine (table_any _).mono ?_; rintro e w' ⟨rfl, hb⟩) | go_in)
 go_ret
 exact ⟨rfl, by assumption⟩
set_option maxHeartbeats 400000 in
set_option maxRecDepth 100000 in
theorem rmay_3_2 (w : World) : Calls Tryz.prog 16 #[.int .i64 3, .int .i64 2] w fun e w' => e = .returned (.bool false) ∧ Below w.heap.size w w' := by
 have i1 := tbl_3
 have i2 := row_3_2
 go_enter Tryz.func16, Tryz.ntmps16
 go_wp2_with (first | (go_at_call 33; refine (table_any _).mono ?_; rintro e w' ⟨rfl, hb⟩) | go_in)
 go_ret
 exact ⟨rfl, by assumption⟩
set_option maxHeartbeats 400000 in
set_option maxRecDepth 100000 in
theorem rmay_3_3 (w : World) : Calls Tryz.prog 16 #[.int .i64 3, .int .i64 3] w fun e w' => e = .returned (.bool false) ∧ Below w.heap.size w w' := by
 have i1 := tbl_3
 have i2 := row_3_3
 go_enter Tryz.func16, Tryz.ntmps16
 go_wp2_with (first | (go_at_call 33; refine (table_any _).mono ?_; rintro e w' ⟨rfl, hb⟩) | go_in)
 go_ret
 exact ⟨rfl, by assumption⟩
set_option maxHeartbeats 400000 in
set_option maxRecDepth 100000 in
theorem rmay_3_4 (w : World) : Calls Tryz.prog 16 #[.int .i64 3, .int .i64 4] w fun e w' => e = .returned (.bool false) ∧ Below w.heap.size w w' := by
 have i1 := tbl_3
 have i2 := row_3_4
 go_enter Tryz.func16, Tryz.ntmps16
 go_wp2_with (first | (go_at_call 33; refine (table_any _).mono ?_; rintro e w' ⟨rfl, hb⟩) | go_in)
 go_ret
 exact ⟨rfl, by assumption⟩
set_option maxHeartbeats 400000 in
set_option maxRecDepth 100000 in
theorem rmay_3_5 (w : World) : Calls Tryz.prog 16 #[.int .i64 3, .int .i64 5] w fun e w' => e = .returned (.bool true) ∧ Below w.heap.size w w' := by
 have i1 := tbl_3
 have i2 := row_3_5
 go_enter Tryz.func16, Tryz.ntmps16
 go_wp2_with (first | (go_at_call 33; refine (table_any _).mono ?_; rintro e w' ⟨rfl, hb⟩) | go_in)
 go_ret
 exact ⟨rfl, by assumption⟩
set_option maxHeartbeats 400000 in
set_option maxRecDepth 100000 in
theorem rmay_3_6 (w : World) : Calls Tryz.prog 16 #[.int .i64 3, .int .i64 6] w fun e w' => e = .returned (.bool true) ∧ Below w.heap.size w w' := by
 have i1 := tbl_3
 have i2 := row_3_6
 go_enter Tryz.func16, Tryz.ntmps16
 go_wp2_with (first | (go_at_call 33; refine (table_any _).mono ?_; rintro e w' ⟨rfl, hb⟩) | go_in)
 go_ret
 exact ⟨rfl, by assumption⟩
set_option maxHeartbeats 400000 in
set_option maxRecDepth 100000 in
theorem rmay_3_7 (w : World) : Calls Tryz.prog 16 #[.int .i64 3, .int .i64 7] w fun e w' => e = .returned (.bool true) ∧ Below w.heap.size w w' := by
 have i1 := tbl_3
 have i2 := row_3_7
 go_enter Tryz.func16, Tryz.ntmps16
 go_wp2_with (first | (go_at_call 33; refine (table_any _).mono ?_; rintro e w' ⟨rfl, hb⟩) | go_in)
 go_ret
 exact ⟨rfl, by assumption⟩
set_option maxHeartbeats 400000 in
set_option maxRecDepth 100000 in
theorem rmay_no (r c : Int) (w : World) (h : ¬ (0 ≤ r ∧ r < 4 ∧ 0 ≤ c ∧ c < 8)) : Calls Tryz.prog 16 #[.int .i64 r, .int .i64 c] w fun e w' => e = .returned (.bool false) ∧ w' = w := by
 by_cases h0 : 0 ≤ r
 ·by_cases h1 : r < 4
  ·by_cases h2 : 0 ≤ c
   ·have h3 : 8 ≤ c := by omega
    clear h
    go_enter Tryz.func16, Tryz.ntmps16
    go_wp2
    go_ret
    exact ⟨rfl, rfl⟩
   ·have h3 : c < 0 := by omega
    clear h h2
    go_enter Tryz.func16, Tryz.ntmps16
    go_wp2
    go_ret
    exact ⟨rfl, rfl⟩
  ·have h3 : 4 ≤ r := by omega
   clear h h1
   go_enter Tryz.func16, Tryz.ntmps16
   go_wp2
   go_ret
   exact ⟨rfl, rfl⟩
 ·have h3 : r < 0 := by omega
  clear h h0
  go_enter Tryz.func16, Tryz.ntmps16
  go_wp2
  go_ret
  exact ⟨rfl, rfl⟩
theorem role_May.calls (a0 : Int) (a1 : Int) (r : Bool) (w : World) (h : role_May.f a0 a1 = some r) :
  Calls Tryz.prog 16 #[.int .i64 a0, .int .i64 a1] w fun e w' => e = .returned (.bool r) ∧ Below w.heap.size w w' := by
 obtain rfl : mayR a0 a1 = r := Option.some.inj h
 by_cases hin : 0 ≤ a0 ∧ a0 < 4 ∧ 0 ≤ a1 ∧ a1 < 8
 ·have hr : a0 = 0 ∨ a0 = 1 ∨ a0 = 2 ∨ a0 = 3 := by omega
  have hc : a1 = 0 ∨ a1 = 1 ∨ a1 = 2 ∨ a1 = 3 ∨ a1 = 4 ∨ a1 = 5 ∨ a1 = 6 ∨ a1 = 7 := by omega
  rcases hr with rfl | rfl | rfl | rfl
  ·rcases hc with rfl | rfl | rfl | rfl | rfl | rfl | rfl | rfl
   ·exact rmay_0_0 w
   ·exact rmay_0_1 w
   ·exact rmay_0_2 w
   ·exact rmay_0_3 w
   ·exact rmay_0_4 w
   ·exact rmay_0_5 w
   ·exact rmay_0_6 w
   ·exact rmay_0_7 w
  ·rcases hc with rfl | rfl | rfl | rfl | rfl | rfl | rfl | rfl
   ·exact rmay_1_0 w
   ·exact rmay_1_1 w
   ·exact rmay_1_2 w
   ·exact rmay_1_3 w
   ·exact rmay_1_4 w
   ·exact rmay_1_5 w
   ·exact rmay_1_6 w
   ·exact rmay_1_7 w
  ·rcases hc with rfl | rfl | rfl | rfl | rfl | rfl | rfl | rfl
   ·exact rmay_2_0 w
   ·exact rmay_2_1 w
   ·exact rmay_2_2 w
   ·exact rmay_2_3 w
   ·exact rmay_2_4 w
   ·exact rmay_2_5 w
   ·exact rmay_2_6 w
   ·exact rmay_2_7 w
  ·rcases hc with rfl | rfl | rfl | rfl | rfl | rfl | rfl | rfl
   ·exact rmay_3_0 w
   ·exact rmay_3_1 w
   ·exact rmay_3_2 w
   ·exact rmay_3_3 w
   ·exact rmay_3_4 w
   ·exact rmay_3_5 w
   ·exact rmay_3_6 w
   ·exact rmay_3_7 w
 ·have e : mayR a0 a1 = false := by unfold mayR; rw [if_neg hin]
  rw [e]
  refine (rmay_no a0 a1 w hin).mono ?_
  rintro e w' ⟨rfl, rfl⟩
  exact ⟨rfl, Below.refl _ _⟩
end Go.Proofs.YtdinphnljokigaaGreat.P
end

section
namespace Go.Proofs.YtdinphnljokigaaGreat.P
open Go.RowKit Go.Lib Go.Proofs.YtdinphnljokigaaGreatW.PrintWords Go.Proofs.YtdinphnljokigaaGreatW.PrintLast Go.Proofs.YtdinphnljokigaaGreatW.PrintMore
structure Don where
 user : Int
 epoch : Int
 draw : Int
 cn : Int
 count : Int
 cmd : Int
 arg : Int
theorem Don.eq_iff (a b : Don) : a = b ↔ (a.user = b.user ∧ a.epoch = b.epoch ∧ a.draw = b.draw ∧ a.cn = b.cn ∧ a.count = b.count ∧ a.cmd = b.cmd ∧ a.arg = b.arg) := by
 constructor
 ·rintro rfl
  exact ⟨rfl, rfl, rfl, rfl, rfl, rfl, rfl⟩
 ·obtain ⟨a0, a1, a2, a3, a4, a5, a6⟩ := a
  obtain ⟨b0, b1, b2, b3, b4, b5, b6⟩ := b
  rintro ⟨h0, h1, h2, h3, h4, h5, h6⟩
  dsimp only at h0 h1 h2 h3 h4 h5 h6
  subst h0 h1 h2 h3 h4 h5 h6
  rfl
instance : DecidableEq Don := fun a b => decidable_of_iff _ (Don.eq_iff a b).symm
def zdon : Don := ⟨0, 0, 0, 0, 0, 0, 0⟩
def dcl (x : Don) : List Value := [.int .i64 x.user, .int .i64 x.epoch, .int .u64 x.draw, .int .u64 x.cn, .int .u64 x.count, .int .i64 x.cmd, .int .i64 x.arg]
def kD : Kd Don where
 sz := 7
 E := []
 K := fun _ x cs => cs = dcl x
 M := fun _ _ _ x cs => cs = dcl x
 K_len := fun h => by rw [h]; rfl
 K_one := fun h u hu => by
  rw [h] at hu
  simp only [dcl, List.mem_cons, List.not_mem_nil, or_false] at hu
  rcases hu with rfl | rfl | rfl | rfl | rfl | rfl | rfl <;> rfl
 K_below := fun _ h => h
 K_of_M := fun h => h
 M_mono := fun _ h => h
 M_bound := fun h => h
 M_move := fun _ h => h
 M_lower := fun _ h => h
theorem infoD : (Tryz.prog.info? 48).map (fun i => (i.zero, i.size, i.bytes)) = some (some (.agg #[.int .i64 0, .int .i64 0, .int .u64 0, .int .u64 0, .int .u64 0, .int .i64 0, .int .i64 0]), 7, 56) := by kernel_rfl
theorem at_D {w : World} {A : Option Addr} {n : Nat} {l : List Don} (h : kD.C w A n l) (i : Nat) (hi : i < n) (x : Don) (hx : l[i]? = some x) :
  ∃ ad, A = some ad ∧ w.cell? (ad.add (i * 7)) = some (.int .i64 x.user) ∧ w.cell? ⟨(ad.add (i * 7)).block, (ad.add (i * 7)).off + 1, none⟩ = some (.int .i64 x.epoch) ∧ w.cell? ⟨(ad.add (i * 7)).block, (ad.add (i * 7)).off + 2, none⟩ = some (.int .u64 x.draw) ∧ w.cell? ⟨(ad.add (i * 7)).block, (ad.add (i * 7)).off + 3, none⟩ = some (.int .u64 x.cn) ∧ w.cell? ⟨(ad.add (i * 7)).block, (ad.add (i * 7)).off + 4, none⟩ = some (.int .u64 x.count) ∧ w.cell? ⟨(ad.add (i * 7)).block, (ad.add (i * 7)).off + 5, none⟩ = some (.int .i64 x.cmd) ∧ w.cell? ⟨(ad.add (i * 7)).block, (ad.add (i * 7)).off + 6, none⟩ = some (.int .i64 x.arg) := by
 obtain ⟨ad, c, e, _, hK, hc0⟩ := Kd.C_get h zdon (i : Int) (by omega) (by omega)
 have hK : c = dcl x := by
  have hK' : c = dcl (l.getD (i : Int).toNat zdon) := hK
  rw [Int.toNat_natCast, List.getD_eq_getElem?_getD, hx] at hK'
  exact hK'
 subst hK
 have hc : ∀ j v, (dcl x)[j]? = some v → w.cell? (ad.add (i * 7 + j)) = some v := fun j v hv => hc0 j v hv
 exact ⟨ad, e, hc 0 _ rfl, by rw [← add_field _ _ 1 (by omega)]; exact hc 1 _ rfl, by rw [← add_field _ _ 2 (by omega)]; exact hc 2 _ rfl, by rw [← add_field _ _ 3 (by omega)]; exact hc 3 _ rfl, by rw [← add_field _ _ 4 (by omega)]; exact hc 4 _ rfl, by rw [← add_field _ _ 5 (by omega)]; exact hc 5 _ rfl, by rw [← add_field _ _ 6 (by omega)]; exact hc 6 _ rfl⟩
theorem eq_don (w : World) (d : Nat) (x y : Don) : (Op.equalIn (d + 3) 48 (.agg #[.int .i64 x.user, .int .i64 x.epoch, .int .u64 x.draw, .int .u64 x.cn, .int .u64 x.count, .int .i64 x.cmd, .int .i64 x.arg]) (.agg #[.int .i64 y.user, .int .i64 y.epoch, .int .u64 y.draw, .int .u64 y.cn, .int .u64 y.count, .int .i64 y.cmd, .int .i64 y.arg])).run Tryz.prog w = .ok (decide (x = y)) w := by
 have key : (Op.equalIn (d + 3) 48 (.agg #[.int .i64 x.user, .int .i64 x.epoch, .int .u64 x.draw, .int .u64 x.cn, .int .u64 x.count, .int .i64 x.cmd, .int .i64 x.arg]) (.agg #[.int .i64 y.user, .int .i64 y.epoch, .int .u64 y.draw, .int .u64 y.cn, .int .u64 y.count, .int .i64 y.cmd, .int .i64 y.arg])).run Tryz.prog w = .ok ((x.user == y.user) && ((x.epoch == y.epoch) && ((x.draw == y.draw) && ((x.cn == y.cn) && ((x.count == y.count) && ((x.cmd == y.cmd) && ((x.arg == y.arg)))))))) w := by
  refine eqA_of Tryz.underlying48 (by kernel_rfl) ?_
  refine eqf_cons (by rfl) (part_cell Tryz.underlying3 rfl rfl) (part_cell Tryz.underlying3 rfl rfl) (run_equalIn_int _ _ _ _ _ _ _ Tryz.underlying3) ?_
  refine eqf_cons (by rfl) (part_cell Tryz.underlying3 rfl rfl) (part_cell Tryz.underlying3 rfl rfl) (run_equalIn_int _ _ _ _ _ _ _ Tryz.underlying3) ?_
  refine eqf_cons (by rfl) (part_cell Tryz.underlying27 rfl rfl) (part_cell Tryz.underlying27 rfl rfl) (run_equalIn_int _ _ _ _ _ _ _ Tryz.underlying27) ?_
  refine eqf_cons (by rfl) (part_cell Tryz.underlying27 rfl rfl) (part_cell Tryz.underlying27 rfl rfl) (run_equalIn_int _ _ _ _ _ _ _ Tryz.underlying27) ?_
  refine eqf_cons (by rfl) (part_cell Tryz.underlying27 rfl rfl) (part_cell Tryz.underlying27 rfl rfl) (run_equalIn_int _ _ _ _ _ _ _ Tryz.underlying27) ?_
  refine eqf_cons (by rfl) (part_cell Tryz.underlying3 rfl rfl) (part_cell Tryz.underlying3 rfl rfl) (run_equalIn_int _ _ _ _ _ _ _ Tryz.underlying3) ?_
  exact eqf_last (by rfl) (part_cell Tryz.underlying3 rfl rfl) (part_cell Tryz.underlying3 rfl rfl) (run_equalIn_int _ _ _ _ _ _ _ Tryz.underlying3)
 rw [key]
 congr 1
 rw [Bool.eq_iff_iff, decide_eq_true_eq, Don.eq_iff]
 simp only [Bool.and_eq_true, beq_iff_eq]
theorem neq_don (w : World) (x y : Don) : (binOp .neq 48 (.agg #[.int .i64 x.user, .int .i64 x.epoch, .int .u64 x.draw, .int .u64 x.cn, .int .u64 x.count, .int .i64 x.cmd, .int .i64 x.arg]) (.agg #[.int .i64 y.user, .int .i64 y.epoch, .int .u64 y.draw, .int .u64 y.cn, .int .u64 y.count, .int .i64 y.cmd, .int .i64 y.arg])).run Tryz.prog w = .ok (.bool (!decide (x = y))) w := by
 show (do pure (Value.bool (!(← Op.equal 48 (.agg #[.int .i64 x.user, .int .i64 x.epoch, .int .u64 x.draw, .int .u64 x.cn, .int .u64 x.count, .int .i64 x.cmd, .int .i64 x.arg]) (.agg #[.int .i64 y.user, .int .i64 y.epoch, .int .u64 y.draw, .int .u64 y.cn, .int .u64 y.count, .int .i64 y.cmd, .int .i64 y.arg])))) : Sem Value).run Tryz.prog w = _
 have h : (Op.equal 48 (.agg #[.int .i64 x.user, .int .i64 x.epoch, .int .u64 x.draw, .int .u64 x.cn, .int .u64 x.count, .int .i64 x.cmd, .int .i64 x.arg]) (.agg #[.int .i64 y.user, .int .i64 y.epoch, .int .u64 y.draw, .int .u64 y.cn, .int .u64 y.count, .int .i64 y.cmd, .int .i64 y.arg])).run Tryz.prog w = .ok (decide (x = y)) w := eq_don w 9997 x y
 simp only [Sem.run_bind, h, Result.andThen_ok, Sem.run_pure]
theorem take_moreG {α : Type} {l k : List α} {i : Nat} {x : α} (h : l.take i = k.take i) (hx : l[i]? = some x) (hy : k[i]? = some x) : l.take (i + 1) = k.take (i + 1) := by
 rw [List.take_add_one, List.take_add_one, h, hx, hy]
theorem take_notG {α : Type} {l k : List α} {i : Nat} {x y : α} (hx : l[i]? = some x) (hy : k[i]? = some y) (h : x ≠ y) : l ≠ k := by
 rintro rfl
 rw [hx] at hy
 exact h (Option.some.inj hy)
theorem at_B {w : World} {A : Option Addr} {n : Nat} {l : List Int} (h : (Kd.int .u8).C w A n l) (i : Nat) (hi : i < n) (x : Int) (hx : l[i]? = some x) : ∃ ad, A = some ad ∧ w.cell? (ad.add i) = some (.int .u8 x) := by
 obtain ⟨ad, e, hc⟩ := Kd.at_int h (i : Int) (by omega) (by omega)
 rw [Int.toNat_natCast, rd, Int.toNat_natCast, List.getD_eq_getElem?_getD, hx] at hc
 exact ⟨ad, e, hc⟩
theorem eqg_don : Tryz.prog.eqGuardType Tryz.prog.depth 48 = false := by kernel_rfl
set_option maxHeartbeats 2000000 in
theorem beq_any (l k : List Int) (A B : Option Addr) (c d : Nat) (W : World) (hr : (Kd.int .u8).C W A l.length l) (hs : (Kd.int .u8).C W B k.length k) :
  Calls Tryz.prog 77 #[.slice A l.length c, .slice B k.length d] W fun e w' => e = .returned (.bool (decide (l = k))) ∧ Below W.heap.size W w' := by
 have hml : l.length ≤ 9223372036854775807 := hr.2.1
 have HC := aq_ hr
 have HD := aq_ hs
 have HB := aq_ (Below.refl W.heap.size W)
 clear hr hs
 by_cases hlen : l.length = k.length
 ·have HLEN := aq_ hlen
  have hl2 : (decide ((l.length : Int) = (k.length : Int))) = true := by simp [hlen]
  have hl3 : ((l.length : Int) == (k.length : Int)) = true := by simp [hlen]
  clear hlen
  go_enter Tryz.func77, Tryz.ntmps77
  go_wp2
  go_loopw [13] (fun v wr => ∃ i : Nat, i ≤ l.length ∧ v = .int .i64 i ∧ Aside0 (l.take i = k.take i) ∧ Aside0 (Below W.heap.size W wr)) (fun v _ => l.length - (intOf v).toNat)
  case atStart => exact ⟨0, by omega, rfl, ⟨rfl⟩, HB⟩
  case round =>
   clear HB
   obtain ⟨i, hi, rfl, HS, HB⟩ := hrel
   obtain ⟨wo, rfl⟩ : ∃ wo : World, wo = wr := ⟨_, rfl⟩
   by_cases hlt : i < l.length
   ·have hlt2 : i < k.length := by rw [← HLEN.out]; exact hlt
    obtain ⟨x, hx⟩ : ∃ x, l[i]? = some x := ⟨_, List.getElem?_eq_getElem hlt⟩
    obtain ⟨y, hy⟩ : ∃ y, k[i]? = some y := ⟨_, List.getElem?_eq_getElem hlt2⟩
    obtain ⟨ax, rfl, x0⟩ := at_B (Kd.C_below HC.out HB.out) i hlt x hx
    obtain ⟨ay, rfl, y0⟩ := at_B (Kd.C_below HD.out HB.out) i hlt2 y hy
    have H1 := aq_ hx
    have H2 := aq_ hy
    clear hx hy
    by_cases hxy : x = y
    ·have HT := aq_ (take_moreG HS.out H1.out (by rw [hxy]; exact H2.out))
     have n1 : (x != y) = false := by simp [hxy]
     clear hxy
     clear hl2 hl3
     go_wp2
     refine start_ (n := 9) (S := fun w' => w'.cell? (ax.add i) = some (.int .u8 x) ∧ w'.cell? (ay.add i) = some (.int .u8 y)) (ds := []) #[false, false, false, false, false, false, false, false, false] (by kernel_rfl) rfl rfl ⟨x0, y0⟩ (fun hHeld => ?_)
     refine pz_ 0 (some 16) (bt_ 9 1) ?_
     refine pz_ 1 (some 17) (bt_ 9 3) ?_
     refine pz_ 2 (some 18) (bt_ 9 7) ?_
     refine pz_ 4 (some 20) (bt_ 9 23) ?_
     refine pz_ 5 (some 21) (bt_ 9 55) ?_
     refine pz_ 6 (some 22) (bt_ 9 119) ?_
     refine tz_ 3 (some 19) (bt_ 9 127) hHeld ?_
     refine tz_ 7 (some 23) (bt_ 9 255) hHeld ?_
     refine pz_ 8 (some 24) (bt_ 9 511) ?_
     refine done_ (by kernel_rfl) ?_
     have HB1 := aq_ (below_drew HB.out)
     go_wp2
     go_roundw
     case rel => exact ⟨i + 1, by omega, by go_num, HT, HB1⟩
     case measure => simp [intOf]; omega
    ·have HT := aq_ (take_notG H1.out H2.out hxy)
     have n1 : (x != y) = true := by simpa using hxy
     clear hl2 hl3 hxy
     go_wp2
     refine start_ (n := 9) (S := fun w' => w'.cell? (ax.add i) = some (.int .u8 x) ∧ w'.cell? (ay.add i) = some (.int .u8 y)) (ds := []) #[false, false, false, false, false, false, false, false, false] (by kernel_rfl) rfl rfl ⟨x0, y0⟩ (fun hHeld => ?_)
     refine pz_ 0 (some 16) (bt_ 9 1) ?_
     refine pz_ 1 (some 17) (bt_ 9 3) ?_
     refine pz_ 2 (some 18) (bt_ 9 7) ?_
     refine pz_ 4 (some 20) (bt_ 9 23) ?_
     refine pz_ 5 (some 21) (bt_ 9 55) ?_
     refine pz_ 6 (some 22) (bt_ 9 119) ?_
     refine tz_ 3 (some 19) (bt_ 9 127) hHeld ?_
     refine tz_ 7 (some 23) (bt_ 9 255) hHeld ?_
     refine pz_ 8 (some 24) (bt_ 9 511) ?_
     refine done_ (by kernel_rfl) ?_
     have HB1 := aq_ (below_drew HB.out)
     go_wp2
     go_ret
     exact ⟨by rw [decide_eq_false HT.out]; rfl, HB1.out⟩
   ·obtain rfl : i = l.length := by omega
    have he : l = k := by
     have h := HS.out
     rw [List.take_length, HLEN.out, List.take_length] at h
     exact h
    have HE := aq_ he
    clear he
    go_wp2
    go_ret
    exact ⟨by rw [decide_eq_true HE.out]; rfl, HB.out⟩
 ·have hl3 : ((l.length : Int) == (k.length : Int)) = false := by simpa using (show ¬ ((l.length : Int) = (k.length : Int)) by omega)
  have hl2 : (decide ((l.length : Int) = (k.length : Int))) = false := decide_eq_false (by omega)
  have HN := aq_ (show l ≠ k from fun h => hlen (by rw [h]))
  clear hlen
  go_enter Tryz.func77, Tryz.ntmps77
  go_wp2
  go_ret
  exact ⟨by rw [decide_eq_false HN.out]; rfl, HB.out⟩
set_option maxHeartbeats 2000000 in
theorem deq_any (l k : List Don) (A B : Option Addr) (c d : Nat) (W : World) (hr : kD.C W A l.length l) (hs : kD.C W B k.length k) :
  Calls Tryz.prog 49 #[.slice A l.length c, .slice B k.length d] W fun e w' => e = .returned (.bool (decide (l = k))) ∧ Below W.heap.size W w' := by
 have hml : l.length ≤ 9223372036854775807 := hr.2.1
 have HC := aq_ hr
 have HD := aq_ hs
 have HB := aq_ (Below.refl W.heap.size W)
 clear hr hs
 have hg := eqg_don
 by_cases hlen : l.length = k.length
 ·have HLEN := aq_ hlen
  have hl2 : (decide ((l.length : Int) = (k.length : Int))) = true := by simp [hlen]
  have hl3 : ((l.length : Int) == (k.length : Int)) = true := by simp [hlen]
  clear hlen
  go_enter Tryz.func49, Tryz.ntmps49
  go_wp2
  go_loopw [13] (fun v wr => ∃ i : Nat, i ≤ l.length ∧ v = .int .i64 i ∧ Aside0 (l.take i = k.take i) ∧ Aside0 (Below W.heap.size W wr)) (fun v _ => l.length - (intOf v).toNat)
  case atStart => exact ⟨0, by omega, rfl, ⟨rfl⟩, HB⟩
  case round =>
   clear HB
   obtain ⟨i, hi, rfl, HS, HB⟩ := hrel
   obtain ⟨wo, rfl⟩ : ∃ wo : World, wo = wr := ⟨_, rfl⟩
   by_cases hlt : i < l.length
   ·have hlt2 : i < k.length := by rw [← HLEN.out]; exact hlt
    obtain ⟨x, hx⟩ : ∃ x, l[i]? = some x := ⟨_, List.getElem?_eq_getElem hlt⟩
    obtain ⟨y, hy⟩ : ∃ y, k[i]? = some y := ⟨_, List.getElem?_eq_getElem hlt2⟩
    obtain ⟨ax, rfl, x0, x1, x2, x3, x4, x5, x6⟩ := at_D (Kd.C_below HC.out HB.out) i hlt x hx
    obtain ⟨ay, rfl, y0, y1, y2, y3, y4, y5, y6⟩ := at_D (Kd.C_below HD.out HB.out) i hlt2 y hy
    have H1 := aq_ hx
    have H2 := aq_ hy
    clear hx hy
    by_cases hxy : x = y
    ·have HT := aq_ (take_moreG HS.out H1.out (by rw [hxy]; exact H2.out))
     have n1 := fun w => neq_don w x y
     rw [decide_eq_true hxy] at n1
     clear hxy
     clear hl2 hl3
     go_wp2
     refine start_ (n := 9) (S := fun w' => w'.cell? (ax.add (i * 7)) = some (.int .i64 x.user) ∧ w'.cell? ⟨(ax.add (i * 7)).block, (ax.add (i * 7)).off + 1, none⟩ = some (.int .i64 x.epoch) ∧ w'.cell? ⟨(ax.add (i * 7)).block, (ax.add (i * 7)).off + 2, none⟩ = some (.int .u64 x.draw) ∧ w'.cell? ⟨(ax.add (i * 7)).block, (ax.add (i * 7)).off + 3, none⟩ = some (.int .u64 x.cn) ∧ w'.cell? ⟨(ax.add (i * 7)).block, (ax.add (i * 7)).off + 4, none⟩ = some (.int .u64 x.count) ∧ w'.cell? ⟨(ax.add (i * 7)).block, (ax.add (i * 7)).off + 5, none⟩ = some (.int .i64 x.cmd) ∧ w'.cell? ⟨(ax.add (i * 7)).block, (ax.add (i * 7)).off + 6, none⟩ = some (.int .i64 x.arg) ∧ w'.cell? (ay.add (i * 7)) = some (.int .i64 y.user) ∧ w'.cell? ⟨(ay.add (i * 7)).block, (ay.add (i * 7)).off + 1, none⟩ = some (.int .i64 y.epoch) ∧ w'.cell? ⟨(ay.add (i * 7)).block, (ay.add (i * 7)).off + 2, none⟩ = some (.int .u64 y.draw) ∧ w'.cell? ⟨(ay.add (i * 7)).block, (ay.add (i * 7)).off + 3, none⟩ = some (.int .u64 y.cn) ∧ w'.cell? ⟨(ay.add (i * 7)).block, (ay.add (i * 7)).off + 4, none⟩ = some (.int .u64 y.count) ∧ w'.cell? ⟨(ay.add (i * 7)).block, (ay.add (i * 7)).off + 5, none⟩ = some (.int .i64 y.cmd) ∧ w'.cell? ⟨(ay.add (i * 7)).block, (ay.add (i * 7)).off + 6, none⟩ = some (.int .i64 y.arg)) (ds := []) #[false, false, false, false, false, false, false, false, false] (by kernel_rfl) rfl rfl ⟨x0, x1, x2, x3, x4, x5, x6, y0, y1, y2, y3, y4, y5, y6⟩ (fun hHeld => ?_)
     refine pz_ 0 (some 16) (bt_ 9 1) ?_
     refine pz_ 1 (some 17) (bt_ 9 3) ?_
     refine pz_ 2 (some 18) (bt_ 9 7) ?_
     refine pz_ 4 (some 20) (bt_ 9 23) ?_
     refine pz_ 5 (some 21) (bt_ 9 55) ?_
     refine pz_ 6 (some 22) (bt_ 9 119) ?_
     refine tz_ 3 (some 19) (bt_ 9 127) hHeld ?_
     refine tz_ 7 (some 23) (bt_ 9 255) hHeld ?_
     refine pz_ 8 (some 24) (bt_ 9 511) ?_
     refine done_ (by kernel_rfl) ?_
     have HB1 := aq_ (below_drew HB.out)
     go_wp2
     go_roundw
     case rel => exact ⟨i + 1, by omega, by go_num, HT, HB1⟩
     case measure => simp [intOf]; omega
    ·have HT := aq_ (take_notG H1.out H2.out hxy)
     have n1 := fun w => neq_don w x y
     rw [decide_eq_false hxy] at n1
     clear hl2 hl3 hxy
     go_wp2
     refine start_ (n := 9) (S := fun w' => w'.cell? (ax.add (i * 7)) = some (.int .i64 x.user) ∧ w'.cell? ⟨(ax.add (i * 7)).block, (ax.add (i * 7)).off + 1, none⟩ = some (.int .i64 x.epoch) ∧ w'.cell? ⟨(ax.add (i * 7)).block, (ax.add (i * 7)).off + 2, none⟩ = some (.int .u64 x.draw) ∧ w'.cell? ⟨(ax.add (i * 7)).block, (ax.add (i * 7)).off + 3, none⟩ = some (.int .u64 x.cn) ∧ w'.cell? ⟨(ax.add (i * 7)).block, (ax.add (i * 7)).off + 4, none⟩ = some (.int .u64 x.count) ∧ w'.cell? ⟨(ax.add (i * 7)).block, (ax.add (i * 7)).off + 5, none⟩ = some (.int .i64 x.cmd) ∧ w'.cell? ⟨(ax.add (i * 7)).block, (ax.add (i * 7)).off + 6, none⟩ = some (.int .i64 x.arg) ∧ w'.cell? (ay.add (i * 7)) = some (.int .i64 y.user) ∧ w'.cell? ⟨(ay.add (i * 7)).block, (ay.add (i * 7)).off + 1, none⟩ = some (.int .i64 y.epoch) ∧ w'.cell? ⟨(ay.add (i * 7)).block, (ay.add (i * 7)).off + 2, none⟩ = some (.int .u64 y.draw) ∧ w'.cell? ⟨(ay.add (i * 7)).block, (ay.add (i * 7)).off + 3, none⟩ = some (.int .u64 y.cn) ∧ w'.cell? ⟨(ay.add (i * 7)).block, (ay.add (i * 7)).off + 4, none⟩ = some (.int .u64 y.count) ∧ w'.cell? ⟨(ay.add (i * 7)).block, (ay.add (i * 7)).off + 5, none⟩ = some (.int .i64 y.cmd) ∧ w'.cell? ⟨(ay.add (i * 7)).block, (ay.add (i * 7)).off + 6, none⟩ = some (.int .i64 y.arg)) (ds := []) #[false, false, false, false, false, false, false, false, false] (by kernel_rfl) rfl rfl ⟨x0, x1, x2, x3, x4, x5, x6, y0, y1, y2, y3, y4, y5, y6⟩ (fun hHeld => ?_)
     refine pz_ 0 (some 16) (bt_ 9 1) ?_
     refine pz_ 1 (some 17) (bt_ 9 3) ?_
     refine pz_ 2 (some 18) (bt_ 9 7) ?_
     refine pz_ 4 (some 20) (bt_ 9 23) ?_
     refine pz_ 5 (some 21) (bt_ 9 55) ?_
     refine pz_ 6 (some 22) (bt_ 9 119) ?_
     refine tz_ 3 (some 19) (bt_ 9 127) hHeld ?_
     refine tz_ 7 (some 23) (bt_ 9 255) hHeld ?_
     refine pz_ 8 (some 24) (bt_ 9 511) ?_
     refine done_ (by kernel_rfl) ?_
     have HB1 := aq_ (below_drew HB.out)
     go_wp2
     go_ret
     exact ⟨by rw [decide_eq_false HT.out]; rfl, HB1.out⟩
   ·obtain rfl : i = l.length := by omega
    have he : l = k := by
     have h := HS.out
     rw [List.take_length, HLEN.out, List.take_length] at h
     exact h
    have HE := aq_ he
    clear he
    go_wp2
    go_ret
    exact ⟨by rw [decide_eq_true HE.out]; rfl, HB.out⟩
 ·have hl3 : ((l.length : Int) == (k.length : Int)) = false := by simpa using (show ¬ ((l.length : Int) = (k.length : Int)) by omega)
  have hl2 : (decide ((l.length : Int) = (k.length : Int))) = false := decide_eq_false (by omega)
  have HN := aq_ (show l ≠ k from fun h => hlen (by rw [h]))
  clear hlen
  go_enter Tryz.func49, Tryz.ntmps49
  go_wp2
  go_ret
  exact ⟨by rw [decide_eq_false HN.out]; rfl, HB.out⟩
end Go.Proofs.YtdinphnljokigaaGreat.P
end
