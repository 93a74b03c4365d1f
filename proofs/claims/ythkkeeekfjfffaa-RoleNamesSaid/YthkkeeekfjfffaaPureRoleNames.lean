/- RoleNames, in plain data. -/
import Derived.Test.YthkkeeekfjfffaaHPureRole
import Derived.Test.YthkkeeekfjfffaaHStmtRoleNames
namespace Go.Proofs.Ythkkeeekfjfffaa.Pure
open Go.RowKit Go.Proofs.Ythkkeeekfjfffaa.P Go.Proofs.YthkkeeekfjfffaaW.PrintWords Go.Proofs.YthkkeeekfjfffaaW.PrintLast
set_option linter.unusedVariables false
set_option linter.unusedSimpArgs false
theorem name_in (c : Int) (h : 0 ≤ c ∧ c < 8) : (nameF c).toList ≠ [] ∧ readF (nameF c) = c := by
  rcases cmds c with h | rfl | rfl | rfl | rfl | rfl | rfl | rfl | rfl
  · omega
  all_goals decide +kernel
theorem name_out (c : Int) (h : ¬ (0 ≤ c ∧ c < 8)) : (nameF c).toList = [] := by
  unfold nameF
  rw [if_neg h]
  decide +kernel
theorem name_apart (c d : Int) (h : 0 ≤ c ∧ c < 8) (hn : ¬ c = d) : ((nameF d).toList == (nameF c).toList) = false := by
  rcases cmds d with hd | hd
  · rw [name_out d hd]
    have := (name_in c h).1
    simpa using this
  · rcases cmds c with h2 | rfl | rfl | rfl | rfl | rfl | rfl | rfl | rfl
    · omega
    all_goals rcases hd with rfl | rfl | rfl | rfl | rfl | rfl | rfl | rfl <;> first | (exact absurd rfl hn) | decide +kernel
theorem find_from (s : ByteArray) : ∀ (m d : List ByteArray), (findFrom s m d.length = -1) ∨ (∃ j : Nat, findFrom s m d.length = j ∧ d.length ≤ j ∧ j < d.length + m.length ∧ s.toList = ((d ++ m).getD j ByteArray.empty).toList) := by
  intro m
  induction m with
  | nil => exact fun d => Or.inl rfl
  | cons x m ih =>
    intro d
    unfold findFrom
    by_cases hq : s.toList = x.toList
    · rw [if_pos hq]
      exact Or.inr ⟨d.length, rfl, Nat.le_refl _, by simp, by simpa using hq⟩
    · rw [if_neg hq]
      have := ih (d ++ [x])
      simp only [List.length_append, List.length_cons, List.length_nil, Nat.zero_add, List.append_assoc, List.cons_append, List.nil_append] at this
      rcases this with h | ⟨j, h, h1, h2, h3⟩
      · exact Or.inl h
      · exact Or.inr ⟨j, h, by omega, by simp; omega, h3⟩
theorem read_back (s : ByteArray) : readF s = -1 ∨ (0 ≤ readF s ∧ readF s < 8 ∧ (nameF (readF s)).toList = s.toList) := by
  rcases find_from s nameL [] with h | ⟨j, h, h1, h2, h3⟩
  · exact Or.inl h
  · right
    have hj : j < 8 := by simpa [nameL] using h2
    have hr : readF s = (j : Int) := h
    rw [hr]
    refine ⟨by omega, by omega, ?_⟩
    unfold nameF
    rw [if_pos (by omega), h3]
    rfl
theorem RoleNames : pelicanlaw07_RoleNames.PureS := by
  intro c d s _ _ _
  obtain ⟨k1, h1⟩ := awake_ev
  have e1 : pelicanlaw07_awake.f (k1 + 3) = some true := h1 (k1 + 3) (by omega)
  refine ⟨k1 + 3, ?_⟩
  unfold pelicanlaw07_RoleNames.f
  rw [e1, Option.bind_some, if_pos rfl]
  simp only [pelicanlaw07_RoleNames.j0]
  cases hd : decide ((s.size : Int) > 40)
  · rw [if_neg (show ¬ (false = true) by decide)]
    have hj2 : pelicanlaw07_RoleNames.j2 (k1 + 1) s false = some true := by
      simp only [pelicanlaw07_RoleNames.j2]
      rw [if_neg (show ¬ (false = true) by decide), read_f, Option.bind_some]
      rcases read_back s with h | ⟨h, h2, h3⟩
      · rw [if_pos h]
      · rw [if_neg (by omega), if_pos (by omega), if_pos h2, name_f, Option.bind_some, h3]
        simp
    have hj1 : ∀ b, b = decide (0 ≤ c ∧ c < 8) → pelicanlaw07_RoleNames.j1 (k1 + 2) c d s b = some true := by
      intro b hb
      simp only [pelicanlaw07_RoleNames.j1]
      rw [name_f, Option.bind_some]
      by_cases hin : 0 ≤ c ∧ c < 8
      · obtain ⟨q1, q2⟩ := name_in c hin
        have hb : b = true := by rw [hb]; simpa using hin
        subst hb
        have hq : ((nameF c).toList != []) = true := by simpa using q1
        rw [hq, if_neg (by decide), if_pos rfl, read_f, Option.bind_some, if_pos q2]
        by_cases hc : c = d
        · rw [if_pos hc, hj2]
        · rw [if_neg hc, name_f, Option.bind_some, name_apart c d hin hc, hj2]
      · have hb : b = false := by rw [hb]; simpa using hin
        subst hb
        rw [name_out c hin, if_neg (by decide), if_neg (by decide), hj2]
    by_cases h0 : c ≥ 0
    · rw [if_pos h0, hj1 _ (decide_eq_decide.2 (by omega))]
    · rw [if_neg h0, hj1 _ (by simp; omega)]
  · rw [if_pos rfl]
end Go.Proofs.Ythkkeeekfjfffaa.Pure
