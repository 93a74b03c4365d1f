/- KnowForge, in plain data. -/
import Derived.Test.YtfonjmggalkbjaaHKnowP
import Derived.Test.YtfonjmggalkbjaaHStmtKnowForge
namespace Go.Proofs.Ytfonjmggalkbjaa.Pure
open Go.RowKit Go.Proofs.Ytfonjmggalkbjaa.P Go.Proofs.YtfonjmggalkbjaaW.PrintWords Go.Proofs.YtfonjmggalkbjaaW.PrintLast
set_option linter.unusedVariables false
set_option linter.unusedSimpArgs false
theorem awake_ev : Ev (fun _ => pelicanlaw06_awake.f) true := Ev.const rfl
theorem out_ev (l : List S24) (x7 : Bool) (a b : Int) (c : List S24) (d e : Int) (f : List S24) (a' b' : Int) (c' : List S24) (h : x7 = true) : Ev (fun k => pelicanlaw06_KnowForge.j0 k l x7 true a b c d e f a' b' c') true :=
  Ev.step (f := fun _ => some x7) (fun k => by rw [pelicanlaw06_KnowForge.j0, if_pos rfl]) (Ev.const (by rw [h]))
theorem KnowForge : pelicanlaw06_KnowForge.PureS := by
  intro l x y hl hx hy
  refine Ev.rounds ?_
  unfold pelicanlaw06_KnowForge.f
  refine Ev.bind awake_ev (Ev.bind (lightAll_ev l) (Ev.bind (light_ev x) (Ev.bind (light_ev y) ?_)))
  unfold pelicanlaw06_Tag.f
  simp only [Option.bind_some]
  refine Ev.yes (by first | rfl | trivial) (Ev.ite (fun h1 => Ev.ite (fun h2 => Ev.ite (fun h3 => ?_) (fun _ => out_ev _ _ _ _ _ _ _ _ _ _ _ rfl)) (fun _ => out_ev _ _ _ _ _ _ _ _ _ _ _ rfl)) (fun _ => out_ev _ _ _ _ _ _ _ _ _ _ _ rfl))
  have h2 := of_decide_eq_true h2
  have h3 := of_decide_eq_true h3
  obtain ⟨hz, hs⟩ := light_size h1
  have hz6 : lsize l ≤ 1000000 := by omega
  have hs6 : ∀ z ∈ l, tsize z ≤ 1000000 := fun z hz => by have := hs z hz; omega
  have htz : tsize ⟨3, 0, [x, y]⟩ = tsize x + tsize y + 1 := by rw [tsize, lsize, lsize, lsize]; omega
  have hmt := may_f ⟨3, 0, [x, y]⟩ (by omega)
  have mT := makes_f l ⟨3, 0, [x, y]⟩ hz6 (by omega)
  have mX := makes_f l x hz6 (by omega)
  have mY := makes_f l y hz6 (by omega)
  unfold know_May.f
  rw [S24_eta, S24_eta]
  rw [show term_May.f 3 0 [x, y] = some (mayT ⟨3, 0, [x, y]⟩) from hmt]
  simp only [Option.bind_some]
  refine Ev.ite (fun hm => ?_) (fun _ => out_ev _ _ _ _ _ _ _ _ _ _ _ rfl)
  cases ht : mayT ⟨3, 0, [x, y]⟩ with
  | false => exact out_ev _ _ _ _ _ _ _ _ _ _ _ rfl
  | true =>
    refine Ev.step (fun k => by rw [pelicanlaw06_KnowForge.j0]) (Ev.no (by simp) ?_)
    rw [parts_f l hz6, if_pos hm]
    simp only [Option.bind_some]
    have hps := parts_size hs6
    refine Ev.bind (in_ev (partsOf l) ⟨3, 0, [x, y]⟩ (by have := parts_len l; omega) hps) ?_
    rw [show know_Makes.f l 3 0 [x, y] = some (makesB l ⟨3, 0, [x, y]⟩) from mT, mX, mY]
    simp only [Option.bind_some]
    have ax : mayT x = true := may_arg (x := ⟨3, 0, [x, y]⟩) ht (by simp)
    have ay : mayT y = true := may_arg (x := ⟨3, 0, [x, y]⟩) ht (by simp)
    have eT : makesB l ⟨3, 0, [x, y]⟩ = (inL (partsOf l) ⟨3, 0, [x, y]⟩ || (makesB l x && makesB l y)) := by
      unfold makesB
      rw [hm, ht, ax, ay]
      simp only [Bool.true_and]
      rw [missT]
      rw [if_neg (by decide)]
      cases hi : inL (partsOf l) ⟨3, 0, [x, y]⟩ with
      | true => rw [if_pos rfl]; rfl
      | false =>
        rw [if_neg (by decide), if_neg (by decide), missL, missL, missL, List.append_nil, Bool.false_or, Bool.eq_iff_iff]
        simp only [decide_eq_true_eq, Bool.and_eq_true, List.append_eq_nil_iff]
    refine Ev.ite (fun h => ?_) (fun h => Ev.ite (fun h5 => Ev.const ?_) (fun h5 => Ev.const ?_))
    · rw [eT, h]; exact Ev.const rfl
    · rw [eT, Bool.eq_false_iff.2 h, h5]; simp
    · rw [eT, Bool.eq_false_iff.2 h, Bool.eq_false_iff.2 h5]; rfl
end Go.Proofs.Ytfonjmggalkbjaa.Pure
