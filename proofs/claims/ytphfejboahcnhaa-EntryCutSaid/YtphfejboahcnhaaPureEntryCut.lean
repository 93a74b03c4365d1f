/- EntryCut, in plain data. -/
import Derived.Test.YtphfejboahcnhaaHEntL
import Derived.Test.YtphfejboahcnhaaHStmtEntryCut
namespace Go.Proofs.Ytphfejboahcnhaa.Pure
open Go.RowKit Go.Proofs.Ytphfejboahcnhaa.P Go.Proofs.YtphfejboahcnhaaW.PrintWords Go.Proofs.YtphfejboahcnhaaW.PrintLast
set_option linter.unusedVariables false
set_option linter.unusedSimpArgs false
theorem EntryCut : pelicanlaw10_EntryCut.PureS := by
  intro l hl
  have hb : ∀ x ∈ l, 0 ≤ x ∧ x < 256 := fun x hx => wf_u8.1 (hl.2 x hx)
  refine Ev.rounds ?_
  unfold pelicanlaw10_EntryCut.f
  refine Ev.bind awake_ev ?_
  refine Ev.yes rfl (Ev.ite (fun _ => Ev.const rfl) fun h100 => ?_)
  refine Ev.bind (get_ev l hb (by omega)) (Ev.ite (fun _ => Ev.const rfl) fun h30 => Ev.const ?_)
  have hg : getE l = (zeroE, false) := by unfold getE; rw [if_neg (fun h => h30 (by omega))]
  rw [hg]
  rfl
end Go.Proofs.Ytphfejboahcnhaa.Pure
