/- What store.Write tells, in plain data. -/
import Derived.Test.YtlldfihhdbbicaaHPureStore
import Derived.Test.YtlldfihhdbbicaaHWrite
namespace Go.Proofs.Ytlldfihhdbbicaa.P
open Go.RowKit Go.Proofs.YtlldfihhdbbicaaW.PrintWords Go.Proofs.YtlldfihhdbbicaaW.PrintLast Go.Proofs.YtlldfihhdbbicaaW.PrintMore
set_option linter.unusedVariables false
set_option linter.unusedSimpArgs false
theorem write_f (a : Int) (l : List Int) (c : Int) (b : List Int) (hl : l.length < 70368744177664) (hb : b.length < 70368744177664) : store_Write.f a l c b = some (if mayP a l c then (if (b.length : Int) ≤ a - (l.length : Int) then (a, l ++ b, c, 0) else (a, l, c, 12)) else (a, l, c, 1)) := by
  unfold store_Write.f
  rw [if_pos ⟨hl, hb⟩, may_f, Option.bind_some, left_f, Option.bind_some]
  congr 1
  by_cases hm : mayP a l c
  · simp [hm]
  · simp [hm]
theorem write_may {a c : Int} {l b : List Int} (h : mayP a l c) (hb : (b.length : Int) ≤ a - (l.length : Int)) : mayP a (l ++ b) c := by
  obtain ⟨h1, h2, h3, h4, h5⟩ := h
  refine ⟨h1, h2, ?_, h4, ?_⟩
  · rw [List.length_append]; omega
  · rw [List.length_append]; omega
end Go.Proofs.Ytlldfihhdbbicaa.P
