/- What comes in, for this seat: written by a program of the session. -/
import Derived.Test.YtphfejboahcnhaaHOpens
import Derived.Test.YtphfejboahcnhaaPx0
namespace Go.Proofs.Ytphfejboahcnhaa.P
open Go.RowKit Go.Proofs.YtphfejboahcnhaaW.PrintWords Go.Proofs.YtphfejboahcnhaaW.PrintLast
set_option linter.unusedVariables false
set_option linter.unusedSimpArgs false
def G25 (x : S25) : Prop := (fun n => (Lit.int .i64 n).wf = true) x.f0 ∧ (fun n => (Lit.int .i64 n).wf = true) x.f1 ∧ (fun n => (Lit.int .i64 n).wf = true) x.f2 ∧ (fun n => (Lit.int .i64 n).wf = true) x.f3 ∧ (fun n => (Lit.int .u64 n).wf = true) x.f4 ∧ (fun n => (Lit.int .u64 n).wf = true) x.f5 ∧ (fun n => (Lit.int .i64 n).wf = true) x.f6 ∧ (fun n => (Lit.int .i64 n).wf = true) x.f7 ∧ (fun n => (Lit.int .i64 n).wf = true) x.f8
theorem open25 : Opens Try.prog 25 k25 G25 := by
  intro n H enc w base spare held cs x h
  obtain ⟨xs, m, rfl, rfl, hl, hxl, hf⟩ := DataW.trod_struct Try.underlying25 h
  obtain ⟨a0, K0, g0⟩ := opens_field hxl hf (i := 0) rfl ((opens_int (k := .i64) Try.underlying3) m)
  obtain ⟨a1, K1, g1⟩ := opens_field hxl hf (i := 1) rfl ((opens_int (k := .i64) Try.underlying3) m)
  obtain ⟨a2, K2, g2⟩ := opens_field hxl hf (i := 2) rfl ((opens_int (k := .i64) Try.underlying3) m)
  obtain ⟨a3, K3, g3⟩ := opens_field hxl hf (i := 3) rfl ((opens_int (k := .i64) Try.underlying3) m)
  obtain ⟨a4, K4, g4⟩ := opens_field hxl hf (i := 4) rfl ((opens_int (k := .u64) Try.underlying22) m)
  obtain ⟨a5, K5, g5⟩ := opens_field hxl hf (i := 5) rfl ((opens_int (k := .u64) Try.underlying22) m)
  obtain ⟨a6, K6, g6⟩ := opens_field hxl hf (i := 6) rfl ((opens_int (k := .i64) Try.underlying3) m)
  obtain ⟨a7, K7, g7⟩ := opens_field hxl hf (i := 7) rfl ((opens_int (k := .i64) Try.underlying3) m)
  obtain ⟨a8, K8, g8⟩ := opens_field hxl hf (i := 8) rfl ((opens_int (k := .i64) Try.underlying23) m)
  have e25_ : Try.prog.cellsOf 25 = 9 := by kernel_rfl
  rw [e25_] at hl
  have e3 : Try.prog.cellsOf 3 = 1 := by kernel_rfl
  have e22 : Try.prog.cellsOf 22 = 1 := by kernel_rfl
  have e23 : Try.prog.cellsOf 23 = 1 := by kernel_rfl
  have J0 : ((Kd.int .i64)).K w a0 ((cs.drop 0).take 1) := by have q : ((Kd.int .i64)).K w a0 ((cs.drop 0).take (Try.prog.cellsOf 3)) := K0; rw [e3] at q; exact q
  have J1 : ((Kd.int .i64)).K w a1 ((cs.drop 1).take 1) := by have q : ((Kd.int .i64)).K w a1 ((cs.drop 1).take (Try.prog.cellsOf 3)) := K1; rw [e3] at q; exact q
  have J2 : ((Kd.int .i64)).K w a2 ((cs.drop 2).take 1) := by have q : ((Kd.int .i64)).K w a2 ((cs.drop 2).take (Try.prog.cellsOf 3)) := K2; rw [e3] at q; exact q
  have J3 : ((Kd.int .i64)).K w a3 ((cs.drop 3).take 1) := by have q : ((Kd.int .i64)).K w a3 ((cs.drop 3).take (Try.prog.cellsOf 3)) := K3; rw [e3] at q; exact q
  have J4 : ((Kd.int .u64)).K w a4 ((cs.drop 4).take 1) := by have q : ((Kd.int .u64)).K w a4 ((cs.drop 4).take (Try.prog.cellsOf 22)) := K4; rw [e22] at q; exact q
  have J5 : ((Kd.int .u64)).K w a5 ((cs.drop 5).take 1) := by have q : ((Kd.int .u64)).K w a5 ((cs.drop 5).take (Try.prog.cellsOf 22)) := K5; rw [e22] at q; exact q
  have J6 : ((Kd.int .i64)).K w a6 ((cs.drop 6).take 1) := by have q : ((Kd.int .i64)).K w a6 ((cs.drop 6).take (Try.prog.cellsOf 3)) := K6; rw [e3] at q; exact q
  have J7 : ((Kd.int .i64)).K w a7 ((cs.drop 7).take 1) := by have q : ((Kd.int .i64)).K w a7 ((cs.drop 7).take (Try.prog.cellsOf 3)) := K7; rw [e3] at q; exact q
  have J8 : ((Kd.int .i64)).K w a8 (cs.drop 8) := by have q : ((Kd.int .i64)).K w a8 ((cs.drop 8).take (Try.prog.cellsOf 23)) := K8; rw [e23, List.take_of_length_le (by rw [List.length_drop]; omega)] at q; exact q
  refine ⟨⟨a0, a1, a2, a3, a4, a5, a6, a7, a8⟩, ?_, g0, g1, g2, g3, g4, g5, g6, g7, g8⟩
  show ((Kd.pair (Kd.int .i64) (Kd.pair (Kd.int .i64) (Kd.pair (Kd.int .i64) (Kd.pair (Kd.int .i64) (Kd.pair (Kd.int .u64) (Kd.pair (Kd.int .u64) (Kd.pair (Kd.int .i64) (Kd.pair (Kd.int .i64) (Kd.int .i64)))))))))).K w (a0, (a1, (a2, (a3, (a4, (a5, (a6, (a7, a8)))))))) cs
  exact (pair_K 1 (by have q := J0; rw [List.drop_zero] at q; exact q) (pair_K 1 J1 (pair_K 1 (by simp only [List.drop_drop]; exact J2) (pair_K 1 (by simp only [List.drop_drop]; exact J3) (pair_K 1 (by simp only [List.drop_drop]; exact J4) (pair_K 1 (by simp only [List.drop_drop]; exact J5) (pair_K 1 (by simp only [List.drop_drop]; exact J6) (pair_K 1 (by simp only [List.drop_drop]; exact J7) (by simp only [List.drop_drop]; exact J8)))))))))
end Go.Proofs.Ytphfejboahcnhaa.P
