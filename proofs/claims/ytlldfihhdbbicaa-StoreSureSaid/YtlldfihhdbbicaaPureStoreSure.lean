/- StoreSure, in plain data. -/
import Derived.Test.YtlldfihhdbbicaaHPureWrite
import Derived.Test.YtlldfihhdbbicaaHStmtStoreSure
namespace Go.Proofs.Ytlldfihhdbbicaa.Pure
open Go.RowKit Go.Proofs.Ytlldfihhdbbicaa.P Go.Proofs.YtlldfihhdbbicaaW.PrintWords Go.Proofs.YtlldfihhdbbicaaW.PrintLast
set_option linter.unusedVariables false
set_option linter.unusedSimpArgs false
/-- Of a store that holds what was, a crash leaves what is told. -/
theorem sure_core (s0 : Int) (l : List Int) (s2 : Int) (w l1 : List Int) (x : Int) (hm : mayP s0 w s2) (hw : ∃ b, w = l ++ b) (e : Int)
    (he : store_Write.f s0 l s2 l1 = some (s0, w, s2, e)) : pelicanlaw09_StoreSure.j0 1 l1 x true false s0 l s2 = some true := by
  obtain ⟨b, hb⟩ := hw
  have hk := kept_in (x := x) hm
  have ht := (take_may (x := x) hm).2
  have h4 := hm.2.2.2.1
  have hlen : (w.length : Int) = (l.length : Int) + (b.length : Int) := by rw [hb, List.length_append]; omega
  simp only [pelicanlaw09_StoreSure.j0]
  rw [if_neg (by decide), he, Option.bind_some, crash_f _ _ _ _ hm, Option.bind_some]
  simp only [ht]
  rw [if_pos (by omega), if_pos (by omega), if_pos (by omega), if_pos (by omega), if_pos (by omega), if_pos ?_, if_pos (by omega), if_pos (by omega)]
  · simp [hb]
  · congr 1
theorem StoreSure : pelicanlaw09_StoreSure.PureS := by
  intro s b x hs hb _
  refine ⟨1, ?_⟩
  have hearly : pelicanlaw09_StoreSure.j0 1 b x true true s.f0 s.f1 s.f2 = some true := by simp [pelicanlaw09_StoreSure.j0]
  unfold pelicanlaw09_StoreSure.f pelicanlaw09_Few.f
  rw [awake_f, Option.bind_some, Option.bind_some, if_pos rfl]
  by_cases hf : (s.f1.length : Int) ≤ 5000
  · rw [decide_eq_true hf, if_pos rfl]
    by_cases h5 : (b.length : Int) > 5000
    · rw [if_pos h5, hearly]
    · rw [if_neg h5, may_f, Option.bind_some]
      by_cases hm : mayP s.f0 s.f1 s.f2
      · rw [decide_eq_true hm]
        have hw := write_f s.f0 s.f1 s.f2 b (by omega) (by omega)
        rw [if_pos hm] at hw
        by_cases hr : (b.length : Int) ≤ s.f0 - (s.f1.length : Int)
        · rw [if_pos hr] at hw
          exact sure_core s.f0 s.f1 s.f2 _ b x (write_may hm hr) ⟨b, rfl⟩ _ hw
        · rw [if_neg hr] at hw
          exact sure_core s.f0 s.f1 s.f2 _ b x hm ⟨[], by simp⟩ _ hw
      · rw [decide_eq_false hm]
        exact hearly
  · rw [decide_eq_false hf, if_neg (by decide), hearly]
end Go.Proofs.Ytlldfihhdbbicaa.Pure
