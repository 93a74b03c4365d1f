/- KnowKeys, in plain data. -/
import Derived.Test.YtfonjmggalkbjaaHKnowP
import Derived.Test.YtfonjmggalkbjaaHStmtKnowKeys
namespace Go.Proofs.Ytfonjmggalkbjaa.Pure
open Go.RowKit Go.Proofs.Ytfonjmggalkbjaa.P Go.Proofs.YtfonjmggalkbjaaW.PrintWords Go.Proofs.YtfonjmggalkbjaaW.PrintLast
set_option linter.unusedVariables false
set_option linter.unusedSimpArgs false
theorem awake_ev : Ev (fun _ => pelicanlaw06_awake.f) true := Ev.const rfl
theorem out_ev (l : List S24) (n : Int) (x7 : Bool) (h : x7 = true) : Ev (fun k => pelicanlaw06_KnowKeys.j0 k l n x7 true) true :=
  Ev.step (f := fun _ => some x7) (fun k => by rw [pelicanlaw06_KnowKeys.j0, if_pos rfl]) (Ev.const (by rw [h]))
def plainB (x : S24) : Bool := (x.f0 == 0) || (x.f0 == 3)
theorem plain_no (l : List S24) (h : l.all plainB = true) (n : Int) : inL (partsOf l) ⟨1, n, []⟩ = false := by
  rw [inL_false]
  intro hm
  obtain ⟨t, ht, hr⟩ := (mem_reachL _ _).1 ((mem_parts l _).1 hm)
  have hp := List.all_eq_true.1 h t ht
  unfold plainB at hp
  rw [Bool.or_eq_true, beq_iff_eq, beq_iff_eq] at hp
  rw [reachT_eq, if_neg (by omega)] at hr
  have e := List.mem_singleton.1 hr
  rw [← e] at hp
  simp at hp
theorem loop_ev (l : List S24) (n : Int) (hn : 0 ≤ n) (hm : mayL l = true) (hz : lsize l ≤ 7500) (hs : ∀ x ∈ l, tsize x ≤ 150) : ∀ (s : List S24) (i : Nat) (b : Bool), l.drop i = s → b = (l.take i).all plainB → Ev (fun k => pelicanlaw06_KnowKeys.l0 k l n b (i : Int)) true := by
  have hll := len_lsize l
  intro s
  induction s with
  | nil =>
    intro i b hd hb
    have hl := drop_nil hd
    have hz6 : lsize l ≤ 1000000 := by omega
    have hs6 : ∀ z ∈ l, tsize z ≤ 1000000 := fun z hz => by have := hs z hz; omega
    have hk : tsize ⟨1, n, []⟩ ≤ 1000000 := by simp [tsize, lsize]
    have mk : know_Makes.f l 1 n [] = some (makesB l ⟨1, n, []⟩) := makes_f l ⟨1, n, []⟩ hz6 hk
    refine Ev.step (fun k => by rw [pelicanlaw06_KnowKeys.l0]) (Ev.no (by omega) ?_)
    rw [parts_f l hz6, if_pos hm]
    unfold pelicanlaw06_Key.f
    simp only [Option.bind_some]
    refine Ev.bind (in_ev (partsOf l) ⟨1, n, []⟩ (by have := parts_len l; omega) (parts_size hs6)) ?_
    rw [mk]
    simp only [Option.bind_some]
    have mt : mayT ⟨1, n, []⟩ = true := by
      rw [mayT_iff, okT, okL, tsize, lsize, tdep, ldep]
      refine ⟨?_, by omega, by omega⟩
      simp [nodeB, hn]
    have e : makesB l ⟨1, n, []⟩ = inL (partsOf l) ⟨1, n, []⟩ := by
      unfold makesB
      rw [hm, mt, missT, if_neg (by decide)]
      cases inL (partsOf l) ⟨1, n, []⟩ <;> simp
    refine Ev.yes (by rw [e]; simp) (Ev.ite (fun h => Ev.const ?_) (fun h => Ev.const rfl))
    rw [hb, List.take_of_length_le hl] at h
    rw [plain_no l h n]; rfl
  | cons y s ihs =>
    intro i b hd hb
    obtain ⟨hi, hr, hd2, hmem⟩ := drop_cons hd
    have hw : wrap64 ((i : Int) + 1) = ((i + 1 : Nat) : Int) := by rw [cw64 (by omega) (by omega)]; rfl
    have ht : (l.take (i + 1)).all plainB = (b && plainB y) := by
      rw [rdT_take l hi, List.all_append, hr, ← hb]; simp
    refine Ev.step (fun k => by rw [pelicanlaw06_KnowKeys.l0, hr, hw]) (Ev.yes (by omega) (Ev.ite (fun h => Ev.yes (by omega) (Ev.ite (fun h0 => ?_) (fun h0 => ?_))) (fun h => ?_)))
    · refine ihs (i + 1) true hd2 ?_
      rw [ht, h]; unfold plainB; rw [show (y.f0 == 0) = true by simpa using h0]; rfl
    · refine ihs (i + 1) (y.f0 == 3) hd2 ?_
      rw [ht, h]; unfold plainB; rw [show (y.f0 == 0) = false by simpa using h0]; rfl
    · refine ihs (i + 1) false hd2 ?_
      rw [ht, Bool.eq_false_iff.2 h]; rfl
theorem KnowKeys : pelicanlaw06_KnowKeys.PureS := by
  intro l n hl hn
  refine Ev.rounds ?_
  unfold pelicanlaw06_KnowKeys.f
  refine Ev.bind awake_ev (Ev.bind (lightAll_ev l) (Ev.yes rfl (Ev.ite (fun h1 => Ev.ite (fun h2 => out_ev _ _ _ rfl) (fun h2 => ?_)) (fun _ => out_ev _ _ _ rfl))))
  obtain ⟨hz, hs⟩ := light_size h1
  unfold know_May.f
  simp only [Option.bind_some]
  cases hm : mayL l with
  | false => exact out_ev _ _ _ rfl
  | true =>
    refine Ev.step (fun k => by rw [pelicanlaw06_KnowKeys.j0]) (Ev.no (by simp) ?_)
    exact loop_ev l n (by omega) hm hz hs l 0 true rfl (by simp)
end Go.Proofs.Ytfonjmggalkbjaa.Pure
