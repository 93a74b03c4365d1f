/- RoleTells, in plain data. -/
import Derived.Test.YthkkeeekfjfffaaHPureRole
import Derived.Test.YthkkeeekfjfffaaHStmtRoleTells
namespace Go.Proofs.Ythkkeeekfjfffaa.Pure
open Go.RowKit Go.Proofs.Ythkkeeekfjfffaa.P Go.Proofs.YthkkeeekfjfffaaW.PrintWords Go.Proofs.YthkkeeekfjfffaaW.PrintLast
set_option linter.unusedVariables false
set_option linter.unusedSimpArgs false
theorem RoleTells : pelicanlaw07_RoleTells.PureS := by
  intro r c s _ _ _
  obtain ⟨k1, h1⟩ := awake_ev
  obtain ⟨k2, h2⟩ := rmay_ev r c
  obtain ⟨k3, h3⟩ := all_ev r
  obtain ⟨k4, h4⟩ := rall_ev r
  obtain ⟨k5, h5⟩ := ints_ev (allL r) (allL_len r)
  obtain ⟨k6, h6⟩ := who_ev c
  obtain ⟨k7, h7⟩ := rwho_ev c
  obtain ⟨k8, h8⟩ := ints_ev (whoL c) (whoL_len c)
  obtain ⟨k9, h9⟩ := rread_ev s
  let K := k1 + k2 + k3 + k4 + k5 + k6 + k7 + k8 + k9
  have hK : K = k1 + k2 + k3 + k4 + k5 + k6 + k7 + k8 + k9 := rfl
  clear_value K
  have e1 := h1 (K + 1) (by omega)
  have e2 := h2 K (by omega)
  have e3 := h3 K (by omega)
  have e4 := h4 K (by omega)
  have e5 := h5 K (by omega)
  have e6 := h6 K (by omega)
  have e7 := h7 K (by omega)
  have e8 := h8 K (by omega)
  have e9 := h9 K (by omega)
  refine ⟨K + 1, ?_⟩
  unfold pelicanlaw07_RoleTells.f
  simp only [e1, Option.bind_some, if_true]
  unfold pelicanlaw07_RoleTells.j0
  cases hd : decide ((s.size : Int) > 40)
  · simp only [if_neg (show ¬ (false = true) by decide), ris_f, e2, rturns_f, e3, e4, e5, e6, e7, e8, e9, is_f, may_f, turns_f, name_f, rname_f, read_f, Option.bind_some, beq_self_eq_true, if_true]
  · simp only [if_true]
end Go.Proofs.Ythkkeeekfjfffaa.Pure
