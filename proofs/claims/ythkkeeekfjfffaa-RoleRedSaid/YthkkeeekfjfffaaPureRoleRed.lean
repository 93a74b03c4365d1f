/- RoleRed, in plain data. -/
import Derived.Test.YthkkeeekfjfffaaHPureRole
import Derived.Test.YthkkeeekfjfffaaHStmtRoleRed
namespace Go.Proofs.Ythkkeeekfjfffaa.Pure
open Go.RowKit Go.Proofs.Ythkkeeekfjfffaa.P Go.Proofs.YthkkeeekfjfffaaW.PrintWords Go.Proofs.YthkkeeekfjfffaaW.PrintLast
set_option linter.unusedVariables false
set_option linter.unusedSimpArgs false
theorem RoleRed : pelicanlaw07_RoleRed.PureS := by
  intro r _
  obtain ⟨k1, h1⟩ := awake_ev
  have e1 : pelicanlaw07_awake.f (k1 + 1) = some true := h1 (k1 + 1) (by omega)
  refine ⟨k1 + 1, ?_⟩
  unfold pelicanlaw07_RoleRed.f
  rw [e1, Option.bind_some]
  rcases roles r with h | rfl | rfl | rfl | rfl
  · have n2 : (r == 2) = false := by simp; omega
    simp [may_f, may_out r 1 (by omega), may_out r 5 (by omega), may_out r 6 (by omega), pelicanlaw07_RoleRed.j0, n2]
    decide
  all_goals rfl
end Go.Proofs.Ythkkeeekfjfffaa.Pure
