/- EntryEpoch, in plain data. -/
import Derived.Test.YtphfejboahcnhaaHEntL
import Derived.Test.YtphfejboahcnhaaHStmtEntryEpoch
namespace Go.Proofs.Ytphfejboahcnhaa.Pure
open Go.RowKit Go.Proofs.Ytphfejboahcnhaa.P Go.Proofs.YtphfejboahcnhaaW.PrintWords Go.Proofs.YtphfejboahcnhaaW.PrintLast
set_option linter.unusedVariables false
set_option linter.unusedSimpArgs false
theorem EntryEpoch : pelicanlaw10_EntryEpoch.PureS := by
  intro l e hl he
  refine Ev.rounds ?_
  unfold pelicanlaw10_EntryEpoch.f
  refine Ev.bind awake_ev (Ev.yes rfl ?_)
  by_cases h300 : (l.length : Int) > 300
  · rw [decide_eq_true h300]
    exact Ev.step (f := fun _ => some true) (fun k => by simp [pelicanlaw10_EntryEpoch.j0]) (Ev.const rfl)
  · rw [decide_eq_false h300]
    refine Ev.step (fun k => by rw [pelicanlaw10_EntryEpoch.j0]) ?_
    refine Ev.no (by decide) (Ev.yes (by simp; omega) ?_)
    simp only [Option.bind_some]
    refine Ev.yes (by simp; omega) ?_
    refine Ev.ite (fun h0 => ?_) (fun h0 => ?_)
    · simp only [epoch_f, Option.bind_some]
      refine Ev.const ?_
      have hb : isK 0 (⟨e.f0, e.f1, e.f2, e.f3, e.f4, e.f5, e.f6, e.f7, e.f8⟩ : SE) = true := by simp [isK, h0]
      rw [List.nil_append, List.filter_append, List.filter_cons_of_pos hb, List.filter_nil, lastE_snoc]
      simp
    · simp only [epoch_f, Option.bind_some]
      refine Ev.const ?_
      have hb : ¬ isK 0 (⟨e.f0, e.f1, e.f2, e.f3, e.f4, e.f5, e.f6, e.f7, e.f8⟩ : SE) = true := by simp [isK, h0]
      rw [List.nil_append, List.filter_append, List.filter_cons_of_neg hb, List.filter_nil, List.append_nil]
      simp
end Go.Proofs.Ytphfejboahcnhaa.Pure
