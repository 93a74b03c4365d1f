/- StoreCrash, in plain data. -/
import Derived.Test.YtlldfihhdbbicaaHPureStore
import Derived.Test.YtlldfihhdbbicaaHStmtStoreCrash
namespace Go.Proofs.Ytlldfihhdbbicaa.Pure
open Go.RowKit Go.Proofs.Ytlldfihhdbbicaa.P Go.Proofs.YtlldfihhdbbicaaW.PrintWords Go.Proofs.YtlldfihhdbbicaaW.PrintLast
set_option linter.unusedVariables false
set_option linter.unusedSimpArgs false
theorem kept_full {l : List Int} {c x : Int} (h : c = (l.length : Int)) : kept l c x = c := by
  unfold kept mx mn
  repeat' split
  all_goals omega
theorem crash_full {a c x : Int} {l : List Int} (hm : mayP a l c) (h : c = (l.length : Int)) : store_Crash.f a l c x = some (a, l, c) := by
  rw [crash_f a l c x hm, kept_full h, h]
  simp
theorem StoreCrash : pelicanlaw09_StoreCrash.PureS := by
  intro s x y hs _ _
  refine ⟨1, ?_⟩
  have hearly : pelicanlaw09_StoreCrash.j0 1 x y true true s.f0 s.f1 s.f2 = some true := by simp [pelicanlaw09_StoreCrash.j0]
  unfold pelicanlaw09_StoreCrash.f pelicanlaw09_Few.f
  rw [awake_f, Option.bind_some, Option.bind_some, if_pos rfl]
  by_cases hf : (s.f1.length : Int) ≤ 5000
  · rw [decide_eq_true hf, if_pos rfl, may_f, Option.bind_some]
    by_cases hm : mayP s.f0 s.f1 s.f2
    · rw [decide_eq_true hm]
      have hy := sync_f s.f0 s.f1 s.f2 (by omega)
      rw [if_pos hm] at hy
      obtain ⟨hm1, hl1⟩ := take_may (x := x) hm
      have hk := kept_in (x := x) hm
      have h4 := hm.2.2.2.1
      have hm2 : mayP s.f0 s.f1 (s.f1.length : Int) := ⟨hm.1, hm.2.1, hm.2.2.1, by omega, by omega⟩
      have hc := crash_f s.f0 s.f1 s.f2 x hm
      have hc1 := crash_full (x := y) hm1 (by omega)
      have hc2 := crash_full (x := x) hm2 rfl
      simp only [Bool.not_true, pelicanlaw09_StoreCrash.j0, hy, hc, hc1, hc2, Option.bind_some, same_refl, if_true, show ¬ (false = true) by decide, if_false]
      simp
    · rw [decide_eq_false hm]
      exact hearly
  · rw [decide_eq_false hf, if_neg (by decide), hearly]
end Go.Proofs.Ytlldfihhdbbicaa.Pure
