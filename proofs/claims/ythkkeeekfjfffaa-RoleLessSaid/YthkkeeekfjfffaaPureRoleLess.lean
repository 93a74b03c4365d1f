/- RoleLess, in plain data. -/
import Derived.Test.YthkkeeekfjfffaaHPureRole
import Derived.Test.YthkkeeekfjfffaaHStmtRoleLess
namespace Go.Proofs.Ythkkeeekfjfffaa.Pure
open Go.RowKit Go.Proofs.Ythkkeeekfjfffaa.P Go.Proofs.YthkkeeekfjfffaaW.PrintWords Go.Proofs.YthkkeeekfjfffaaW.PrintLast
set_option linter.unusedVariables false
set_option linter.unusedSimpArgs false
theorem RoleLess : pelicanlaw07_RoleLess.PureS := by
  intro r c _ _
  obtain ⟨k1, h1⟩ := awake_ev
  have e1 : pelicanlaw07_awake.f (k1 + 2) = some true := h1 (k1 + 2) (by omega)
  refine ⟨k1 + 2, ?_⟩
  unfold pelicanlaw07_RoleLess.f
  rw [e1, Option.bind_some]
  rcases cmds c with h | h
  · have hx : ∀ x, mayB x c = false := fun x => may_out x c (by omega)
    have ht : turnsB c = false := by unfold turnsB; simp; omega
    by_cases h0 : c ≥ 0
    · have h8 : decide (c < 8) = false := by simp; omega
      cases hi : isB r <;> simp [may_f, hx, is_f, hi, turns_f, ht, pelicanlaw07_RoleLess.j0, pelicanlaw07_RoleLess.j1, h0, h8]
    · cases hi : isB r <;> simp [may_f, hx, is_f, hi, turns_f, ht, pelicanlaw07_RoleLess.j0, pelicanlaw07_RoleLess.j1, h0]
  · rcases roles r with hr | hr
    · have hx : mayB r c = false := may_out r c (by omega)
      have hi : isB r = false := by unfold isB; simp; omega
      rcases h with rfl | rfl | rfl | rfl | rfl | rfl | rfl | rfl <;>
      (simp only [may_f, is_f, turns_f, hx, hi, pelicanlaw07_RoleLess.j0, pelicanlaw07_RoleLess.j1, Option.bind_some]; rfl)
    · rcases hr with rfl | rfl | rfl | rfl <;> rcases h with rfl | rfl | rfl | rfl | rfl | rfl | rfl | rfl <;> rfl
end Go.Proofs.Ythkkeeekfjfffaa.Pure
