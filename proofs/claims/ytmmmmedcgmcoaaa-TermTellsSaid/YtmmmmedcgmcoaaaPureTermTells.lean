/- TermTells, in plain data. -/
import Derived.Test.YtmmmmedcgmcoaaaHTermP
import Derived.Test.YtmmmmedcgmcoaaaHStmtTermTells
namespace Go.Proofs.Ytmmmmedcgmcoaaa.Pure
open Go.RowKit Go.Proofs.Ytmmmmedcgmcoaaa.P Go.Proofs.YtmmmmedcgmcoaaaW.PrintWords Go.Proofs.YtmmmmedcgmcoaaaW.PrintLast
set_option linter.unusedVariables false
set_option linter.unusedSimpArgs false
theorem awake_ev : Ev (fun _ => pelicanlaw05_awake.f) true := Ev.const rfl
theorem out_ev (x7 : Bool) (l : List Int) (a b : Int) (c : List S24) (d e : Int) (f : List S24) (h : x7 = true) : Ev (fun k => pelicanlaw05_TermTells.j0 k l x7 true a b c d e f) true :=
  Ev.step (f := fun _ => some x7) (fun k => by rw [pelicanlaw05_TermTells.j0, if_pos rfl]) (Ev.const (by rw [h]))
theorem TermTells : pelicanlaw05_TermTells.PureS := by
  intro x y l hx hy hl
  refine Ev.rounds ?_
  unfold pelicanlaw05_TermTells.f
  refine Ev.bind awake_ev (Ev.bind (light_ev x) (Ev.bind (light_ev y) (Ev.yes rfl (Ev.ite (fun h1 => Ev.ite (fun h2 => ?_) (fun h2 => out_ev _ _ _ _ _ _ _ _ rfl)) (fun h1 => out_ev _ _ _ _ _ _ _ _ rfl)))))
  have h1 := of_decide_eq_true h1
  have h2 := of_decide_eq_true h2
  cases hd : decide ((l.length : Int) > 20) with
  | true => exact out_ev _ _ _ _ _ _ _ _ rfl
  | false =>
    refine Ev.step (fun k => by rw [pelicanlaw05_TermTells.j0]) (Ev.no (by simp) ?_)
    have hx6 : tsize x ≤ 1000000 := by omega
    unfold term_Row.f pelicanref05_Row.f
    simp only [Option.bind_some]
    rw [unrow_f x hx6, size_f x hx6, depth_f x hx6, may_f x hx6, same_f x y]
    simp only [Option.bind_some]
    refine Ev.bind (ref_unrow_ev x hx6) (Ev.bind (ref_same_ev (rowR l) (by have := rowR_size l; omega) (rowR l)) (Ev.bind (ref_same_ev x hx6 y) (Ev.bind (own_ev x hx6) (Ev.bind (ref_same_ev x hx6 x) (Ev.bind (ref_may_ev x hx6) (Ev.bind (ints_ev (uL x) (uL x) (by have := uL_len x; omega)) (Ev.bind (ref_size_ev x hx6) ?_)))))))
    refine Ev.yes rfl (Ev.bind (ref_depth_ev x hx6) (Ev.yes rfl (Ev.yes (by simp) (Ev.yes (by simp) (Ev.yes (sameT_self _) (Ev.yes (by simp) (Ev.yes (by simp) (Ev.yes (by simp) (Ev.const (by rw [sameT_self]))))))))))
end Go.Proofs.Ytmmmmedcgmcoaaa.Pure
