/- TermSame, in plain data. -/
import Derived.Test.YtmmmmedcgmcoaaaHTermP
import Derived.Test.YtmmmmedcgmcoaaaHStmtTermSame
namespace Go.Proofs.Ytmmmmedcgmcoaaa.Pure
open Go.RowKit Go.Proofs.Ytmmmmedcgmcoaaa.P Go.Proofs.YtmmmmedcgmcoaaaW.PrintWords Go.Proofs.YtmmmmedcgmcoaaaW.PrintLast
set_option linter.unusedVariables false
set_option linter.unusedSimpArgs false
theorem awake_ev : Ev (fun _ => pelicanlaw05_awake.f) true := Ev.const rfl
theorem out_ev (x7 : Bool) (a b : Int) (c : List S24) (d e : Int) (f : List S24) (h : x7 = true) : Ev (fun k => pelicanlaw05_TermSame.j0 k x7 true a b c d e f) true :=
  Ev.step (f := fun _ => some x7) (fun k => by rw [pelicanlaw05_TermSame.j0, if_pos rfl]) (Ev.const (by rw [h]))
theorem TermSame : pelicanlaw05_TermSame.PureS := by
  intro x y hx hy
  refine Ev.rounds ?_
  unfold pelicanlaw05_TermSame.f
  refine Ev.bind awake_ev (Ev.bind (light_ev x) (Ev.bind (light_ev y) (Ev.yes rfl (Ev.ite (fun h1 => ?_) (fun h1 => out_ev _ _ _ _ _ _ _ rfl)))))
  have h1 := of_decide_eq_true h1
  cases hd : decide (tsize y ≤ 150 ∧ tdep y ≤ 20) with
  | false => exact out_ev _ _ _ _ _ _ _ rfl
  | true =>
    have h2 := of_decide_eq_true hd
    refine Ev.step (fun k => by rw [pelicanlaw05_TermSame.j0]) (Ev.no (by simp) ?_)
    have hx6 : tsize x ≤ 1000000 := by omega
    have hy6 : tsize y ≤ 1000000 := by omega
    rw [same_f x y, same_f y x, same_f x x, sameT_comm y x, sameT_self]
    simp only [Option.bind_some]
    refine Ev.no (by simp) (Ev.yes (by first | rfl | trivial) (Ev.bind (own_ev x hx6) ?_))
    rw [same_f x x, sameT_self]
    simp only [Option.bind_some]
    refine Ev.step (fun k => by rw [pelicanlaw05_TermSame.j1]) (Ev.no (by simp) (Ev.ite (fun h => ?_) (fun h => Ev.const rfl)))
    obtain rfl := (sameT_iff _ _).1 h
    rw [size_f x hx6, depth_f x hx6, may_f x hx6]
    simp only [Option.bind_some]
    exact Ev.yes (by first | rfl | trivial) (Ev.yes (by first | rfl | trivial) (Ev.const (by simp)))
end Go.Proofs.Ytmmmmedcgmcoaaa.Pure
