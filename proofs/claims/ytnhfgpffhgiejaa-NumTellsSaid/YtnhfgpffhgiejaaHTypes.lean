/- What comes in, for this seat: written by a program of the session. -/
import Derived.Test.YtnhfgpffhgiejaaHOpens
import Derived.Test.YtnhfgpffhgiejaaPx0
namespace Go.Proofs.Ytnhfgpffhgiejaa.P
open Go.RowKit Go.Proofs.YtnhfgpffhgiejaaW.PrintWords Go.Proofs.YtnhfgpffhgiejaaW.PrintLast
set_option linter.unusedVariables false
set_option linter.unusedSimpArgs false
def G41 (x : S41) : Prop := (fun n => (Lit.int .u64 n).wf = true) x.f0 ∧ (fun n => (Lit.int .i64 n).wf = true) x.f1
theorem open41 : Opens Try.prog 41 k41 G41 := by
  intro n H enc w base spare held cs x h
  obtain ⟨xs, m, rfl, rfl, hl, hxl, hf⟩ := DataW.trod_struct Try.underlying41 h
  obtain ⟨a0, K0, g0⟩ := opens_field hxl hf (i := 0) rfl ((opens_int (k := .u64) Try.underlying22) m)
  obtain ⟨a1, K1, g1⟩ := opens_field hxl hf (i := 1) rfl ((opens_int (k := .i64) Try.underlying3) m)
  have e41_ : Try.prog.cellsOf 41 = 2 := by kernel_rfl
  rw [e41_] at hl
  have e3 : Try.prog.cellsOf 3 = 1 := by kernel_rfl
  have e22 : Try.prog.cellsOf 22 = 1 := by kernel_rfl
  have J0 : ((Kd.int .u64)).K w a0 ((cs.drop 0).take 1) := by have q : ((Kd.int .u64)).K w a0 ((cs.drop 0).take (Try.prog.cellsOf 22)) := K0; rw [e22] at q; exact q
  have J1 : ((Kd.int .i64)).K w a1 (cs.drop 1) := by have q : ((Kd.int .i64)).K w a1 ((cs.drop 1).take (Try.prog.cellsOf 3)) := K1; rw [e3, List.take_of_length_le (by rw [List.length_drop]; omega)] at q; exact q
  refine ⟨⟨a0, a1⟩, ?_, g0, g1⟩
  show ((Kd.pair (Kd.int .u64) (Kd.int .i64))).K w (a0, a1) cs
  exact (pair_K 1 (by have q := J0; rw [List.drop_zero] at q; exact q) J1)
end Go.Proofs.Ytnhfgpffhgiejaa.P
