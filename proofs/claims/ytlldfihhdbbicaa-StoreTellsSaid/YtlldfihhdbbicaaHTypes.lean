/- What comes in, for this seat: written by a program of the session. -/
import Derived.Test.YtlldfihhdbbicaaHOpens
import Derived.Test.YtlldfihhdbbicaaPx0
namespace Go.Proofs.Ytlldfihhdbbicaa.P
open Go.RowKit Go.Proofs.YtlldfihhdbbicaaW.PrintWords Go.Proofs.YtlldfihhdbbicaaW.PrintLast
set_option linter.unusedVariables false
set_option linter.unusedSimpArgs false
def G24 (x : S24) : Prop := (fun n => (Lit.int .i64 n).wf = true) x.f0 ∧ (fun l => l.length ≤ maxLen ∧ ∀ x ∈ l, (fun n => (Lit.int .u8 n).wf = true) x) x.f1 ∧ (fun n => (Lit.int .i64 n).wf = true) x.f2
theorem open24 : Opens Try.prog 24 k24 G24 := by
  intro n H enc w base spare held cs x h
  obtain ⟨xs, m, rfl, rfl, hl, hxl, hf⟩ := DataW.trod_struct Try.underlying24 h
  obtain ⟨a0, K0, g0⟩ := opens_field hxl hf (i := 0) rfl ((opens_int (k := .i64) Try.underlying3) m)
  obtain ⟨a1, K1, g1⟩ := opens_field hxl hf (i := 1) rfl ((opens_slice' Try.underlying22 (by kernel_rfl) (opens_int (k := .u8) Try.underlying5)) m)
  obtain ⟨a2, K2, g2⟩ := opens_field hxl hf (i := 2) rfl ((opens_int (k := .i64) Try.underlying3) m)
  have e24_ : Try.prog.cellsOf 24 = 3 := by kernel_rfl
  rw [e24_] at hl
  have e3 : Try.prog.cellsOf 3 = 1 := by kernel_rfl
  have e22 : Try.prog.cellsOf 22 = 1 := by kernel_rfl
  have J0 : ((Kd.int .i64)).K w a0 ((cs.drop 0).take 1) := by have q : ((Kd.int .i64)).K w a0 ((cs.drop 0).take (Try.prog.cellsOf 3)) := K0; rw [e3] at q; exact q
  have J1 : ((Kd.slice 5 (Kd.int .u8))).K w a1 ((cs.drop 1).take 1) := by have q : ((Kd.slice 5 (Kd.int .u8))).K w a1 ((cs.drop 1).take (Try.prog.cellsOf 22)) := K1; rw [e22] at q; exact q
  have J2 : ((Kd.int .i64)).K w a2 (cs.drop 2) := by have q : ((Kd.int .i64)).K w a2 ((cs.drop 2).take (Try.prog.cellsOf 3)) := K2; rw [e3, List.take_of_length_le (by rw [List.length_drop]; omega)] at q; exact q
  refine ⟨⟨a0, a1, a2⟩, ?_, g0, g1, g2⟩
  show ((Kd.pair (Kd.int .i64) (Kd.pair (Kd.slice 5 (Kd.int .u8)) (Kd.int .i64)))).K w (a0, (a1, a2)) cs
  exact (pair_K 1 (by have q := J0; rw [List.drop_zero] at q; exact q) (pair_K 1 J1 (by simp only [List.drop_drop]; exact J2)))
end Go.Proofs.Ytlldfihhdbbicaa.P
