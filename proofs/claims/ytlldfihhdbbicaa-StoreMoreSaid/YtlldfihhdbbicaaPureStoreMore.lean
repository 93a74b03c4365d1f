/- StoreMore, in plain data. -/
import Derived.Test.YtlldfihhdbbicaaHPureStore
import Derived.Test.YtlldfihhdbbicaaHStmtStoreMore
namespace Go.Proofs.Ytlldfihhdbbicaa.Pure
open Go.RowKit Go.Proofs.Ytlldfihhdbbicaa.P Go.Proofs.YtlldfihhdbbicaaW.PrintWords Go.Proofs.YtlldfihhdbbicaaW.PrintLast
set_option linter.unusedVariables false
set_option linter.unusedSimpArgs false
theorem kept_mono {l : List Int} {c x y : Int} (h : x ≤ y) : kept l c x ≤ kept l c y := by
  unfold kept mx mn
  repeat' split
  all_goals omega
theorem kept_all {a c : Int} {l : List Int} (h : mayP a l c) : kept l c (l.length : Int) = (l.length : Int) := by
  obtain ⟨h1, h2, h3, h4, h5⟩ := h
  unfold kept mx mn
  repeat' split
  all_goals omega
theorem StoreMore : pelicanlaw09_StoreMore.PureS := by
  intro s x y hs _ _
  refine ⟨1, ?_⟩
  have hlen := hs.2.1.1
  have hearly : pelicanlaw09_StoreMore.j0 1 x y true true s.f0 s.f1 s.f2 = some true := by simp [pelicanlaw09_StoreMore.j0]
  unfold pelicanlaw09_StoreMore.f pelicanlaw09_Few.f
  rw [awake_f, Option.bind_some, Option.bind_some, if_pos rfl]
  by_cases hf : (s.f1.length : Int) ≤ 5000
  · rw [decide_eq_true hf, if_pos rfl, may_f, Option.bind_some]
    by_cases hm : mayP s.f0 s.f1 s.f2
    · rw [decide_eq_true hm, if_pos rfl]
      by_cases hxy : x > y
      · rw [decide_eq_true hxy, hearly]
      · rw [decide_eq_false hxy]
        have hk1 := kept_in (x := x) hm
        have hk2 := kept_in (x := y) hm
        have hk3 := kept_mono (l := s.f1) (c := s.f2) (show x ≤ y by omega)
        have h4 := hm.2.2.2.1
        simp only [pelicanlaw09_StoreMore.j0]
        rw [if_neg (by decide), crash_f _ _ _ _ hm, Option.bind_some, crash_f _ _ _ _ hm, Option.bind_some, crash_f _ _ _ _ hm, Option.bind_some]
        have l1 := (take_may (x := x) hm).2
        have l2 := (take_may (x := y) hm).2
        simp only [l1, l2]
        rw [if_pos (by omega), if_pos (by omega), if_pos ?_, kept_all hm]
        · simp
        · congr 1
          rw [List.take_take]
          congr 2
          omega
    · rw [decide_eq_false hm, if_neg (by decide), hearly]
  · rw [decide_eq_false hf, if_neg (by decide), hearly]
end Go.Proofs.Ytlldfihhdbbicaa.Pure
