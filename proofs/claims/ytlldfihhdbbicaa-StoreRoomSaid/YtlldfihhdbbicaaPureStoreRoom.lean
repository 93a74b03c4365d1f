/- StoreRoom, in plain data. -/
import Derived.Test.YtlldfihhdbbicaaHPureWrite
import Derived.Test.YtlldfihhdbbicaaHStmtStoreRoom
namespace Go.Proofs.Ytlldfihhdbbicaa.Pure
open Go.RowKit Go.Proofs.Ytlldfihhdbbicaa.P Go.Proofs.YtlldfihhdbbicaaW.PrintWords Go.Proofs.YtlldfihhdbbicaaW.PrintLast
set_option linter.unusedVariables false
set_option linter.unusedSimpArgs false
theorem room_j2 (k : Nat) (b : List Int) (e s0 : Int) (l : List Int) (s2 w0 : Int) (w : List Int) (w2 : Int) (hm : mayP s0 l s2) (h : e = 0 → w0 = s0 ∧ w = l ++ b ∧ w2 = s2 ∧ (b.length : Int) ≤ s0 - (l.length : Int)) : pelicanlaw09_StoreRoom.j2 (k + 1) b e false s0 l s2 w0 w w2 = some true := by
  simp only [pelicanlaw09_StoreRoom.j2]
  rw [if_neg (by decide)]
  by_cases he : e = 0
  · obtain ⟨rfl, rfl, rfl, hr⟩ := h he
    have hm2 := write_may hm hr
    obtain ⟨h1, h2, h3, h4, h5⟩ := id hm
    rw [if_pos he, left_f, Option.bind_some, left_f, Option.bind_some, if_pos hm2, if_pos hm, if_pos (by rw [w64 (by omega) (by omega), List.length_append]; omega)]
    simp
  · rw [if_neg he]
theorem room_j1 (k : Nat) (b : List Int) (n e s0 : Int) (l : List Int) (s2 w0 : Int) (w : List Int) (w2 : Int) (hm : mayP s0 l s2) (h : e = 0 → w0 = s0 ∧ w = l ++ b ∧ w2 = s2 ∧ (b.length : Int) ≤ s0 - (l.length : Int)) : pelicanlaw09_StoreRoom.j1 (k + 2) b n e false s0 l s2 w0 w w2 = some true := by
  have hj := room_j2 k b e s0 l s2 w0 w w2 hm h
  obtain ⟨h1, h2, h3, h4, h5⟩ := id hm
  simp only [pelicanlaw09_StoreRoom.j1]
  rw [if_neg (by decide), cut_f _ _ _ _ (by omega), Option.bind_some]
  by_cases hc : mayP s0 l s2 ∧ 0 ≤ n ∧ n ≤ (l.length : Int)
  · have hl : (l.take n.toNat).length = n.toNat := by rw [List.length_take]; omega
    have hm2 : mayP s0 (l.take n.toNat) n := ⟨h1, h2, by omega, by omega, by omega⟩
    rw [if_pos hc, if_pos rfl]
    simp only [hl]
    rw [if_pos (by omega), left_f, Option.bind_some, if_pos hm2, hl, if_pos (by rw [w64 (by omega) (by omega)]; omega)]
    simpa using hj
  · rw [if_neg hc, if_neg (show ¬ ((1 : Int) = 0) by decide), hj]
theorem StoreRoom : pelicanlaw09_StoreRoom.PureS := by
  intro s b n hs hb _
  refine ⟨3, ?_⟩
  have hearly : pelicanlaw09_StoreRoom.j0 3 b n true true s.f0 s.f1 s.f2 = some true := by simp [pelicanlaw09_StoreRoom.j0]
  unfold pelicanlaw09_StoreRoom.f pelicanlaw09_Few.f
  rw [awake_f, Option.bind_some, Option.bind_some, if_pos rfl]
  by_cases hf : (s.f1.length : Int) ≤ 5000
  · rw [decide_eq_true hf, if_pos rfl]
    by_cases h5 : (b.length : Int) > 5000
    · rw [if_pos h5, hearly]
    · rw [if_neg h5, may_f, Option.bind_some]
      by_cases hm : mayP s.f0 s.f1 s.f2
      · rw [decide_eq_true hm]
        have hw := write_f s.f0 s.f1 s.f2 b (by omega) (by omega)
        rw [if_pos hm] at hw
        simp only [Bool.not_true, pelicanlaw09_StoreRoom.j0]
        rw [if_neg (by decide), hw, Option.bind_some, left_f, if_pos hm, Option.bind_some]
        by_cases hr : (b.length : Int) ≤ s.f0 - (s.f1.length : Int)
        · rw [if_pos hr, decide_eq_true hr, if_neg (show ¬ ((((0 : Int) == 0) != true) = true) by decide), if_pos rfl]
          exact room_j1 0 b n 0 s.f0 s.f1 s.f2 _ _ _ hm (fun _ => ⟨rfl, rfl, rfl, hr⟩)
        · rw [if_neg hr, decide_eq_false hr, if_neg (show ¬ ((((12 : Int) == 0) != false) = true) by decide), if_neg (show ¬ ((12 : Int) = 0) by decide)]
          exact room_j1 0 b n 12 s.f0 s.f1 s.f2 _ _ _ hm (fun h => absurd h (by decide))
      · rw [decide_eq_false hm]
        exact hearly
  · rw [decide_eq_false hf, if_neg (by decide), hearly]
end Go.Proofs.Ytlldfihhdbbicaa.Pure
