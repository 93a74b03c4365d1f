/- EntryBack, in plain data. -/
import Derived.Test.YtphfejboahcnhaaHEntL
import Derived.Test.YtphfejboahcnhaaHStmtEntryBack
namespace Go.Proofs.Ytphfejboahcnhaa.Pure
open Go.RowKit Go.Proofs.Ytphfejboahcnhaa.P Go.Proofs.YtphfejboahcnhaaW.PrintWords Go.Proofs.YtphfejboahcnhaaW.PrintLast
set_option linter.unusedVariables false
set_option linter.unusedSimpArgs false
theorem bytes_inj' {x y : SE} (hx : mayE x = true) (ux : uE x) (hy : mayE y = true) (uy : uE y) : bytesE x = bytesE y ↔ x = y := by
  constructor
  · intro h
    have h1 := get_put hx ux
    rw [h, get_put hy uy] at h1
    exact (congrArg Prod.fst h1).symm
  · intro h; rw [h]
theorem back_j1 (b : List Int) (hb : ∀ x ∈ b, 0 ≤ x ∧ x < 256) (hl : b.length ≤ 100) : Ev (fun k => pelicanlaw10_EntryBack.j1 k b false) true := by
  refine Ev.step (fun k => by rw [pelicanlaw10_EntryBack.j1]) (Ev.no (by decide) ?_)
  refine Ev.bind (get_ev b hb (by omega)) ?_
  refine Ev.bind (put_ev (x := (getE b).1) (uE_get hb)) ?_
  cases hg : (getE b).2
  · rw [getE_no hg]
    refine Ev.no (by decide) ?_
    exact Ev.const (by decide)
  · obtain ⟨h1, h2, h3, h4⟩ := put_get hb hg
    rw [if_pos h1, h3]
    refine Ev.yes rfl (Ev.yes rfl (Ev.const (by simp)))
theorem EntryBack : pelicanlaw10_EntryBack.PureS := by
  intro e f b he hf hb0
  have hb : ∀ x ∈ b, 0 ≤ x ∧ x < 256 := fun x hx => wf_u8.1 (hb0.2 x hx)
  have ue : uE e := ⟨wf_u64.1 he.2.2.2.2.1, wf_u64.1 he.2.2.2.2.2.1⟩
  have uf : uE f := ⟨wf_u64.1 hf.2.2.2.2.1, wf_u64.1 hf.2.2.2.2.2.1⟩
  refine Ev.rounds ?_
  unfold pelicanlaw10_EntryBack.f
  refine Ev.bind awake_ev (Ev.yes rfl ?_)
  by_cases h100 : (b.length : Int) > 100
  · rw [decide_eq_true h100]
    exact Ev.step (f := fun _ => some true) (fun k => by simp [pelicanlaw10_EntryBack.j0]) (Ev.const rfl)
  · rw [decide_eq_false h100]
    have hj := back_j1 b hb (by omega)
    refine Ev.step (fun k => by rw [pelicanlaw10_EntryBack.j0]) (Ev.no (by decide) ?_)
    refine Ev.bind (put_ev ue) ?_
    refine Ev.bind (put_ev uf) ?_
    by_cases hm : mayE e = true
    · rw [if_pos hm]
      have hg := get_ev (bytesE e) (bytes_byte e) (by rw [bytes_len]; omega)
      rw [get_put hm ue] at hg
      refine Ev.bind hg ?_
      simp only [may_f, Option.bind_some, hm]
      refine Ev.no (by decide) (Ev.yes (by first | exact rfl | exact trivial) (Ev.yes (by first | exact rfl | exact trivial) ?_))
      refine Ev.no (by simp [tupE]) ?_
      have hlen := bytes_len e
      refine Ev.yes (by omega) ?_
      by_cases hn : mayE f = true
      · rw [if_pos hn]
        refine Ev.yes rfl ?_
        have key : (((strOfNums (bytesE e)).toList == (strOfNums (bytesE f)).toList) != (e.f0 == f.f0 && (e.f1 == f.f1 && (e.f2 == f.f2 && (e.f3 == f.f3 && (e.f4 == f.f4 && (e.f5 == f.f5 && (e.f6 == f.f6 && (e.f7 == f.f7 && (e.f8 == f.f8))))))))) ) = false := by
          have h1 : ((strOfNums (bytesE e)).toList == (strOfNums (bytesE f)).toList) = eqE e f := by
            rw [Bool.eq_iff_iff, beq_iff_eq, strOf_inj (bytes_byte e) (bytes_byte f), bytes_inj' hm ue hn uf, eqE_iff]
          rw [h1]
          simp [eqE]
        dsimp only
        rw [key]
        exact hj
      · rw [if_neg hn]
        exact Ev.no (by decide) hj
    · rw [if_neg hm]
      have hg := get_ev [] (by simp) (by simp)
      refine Ev.bind hg ?_
      have hm' := Bool.eq_false_iff.mpr hm
      simp only [may_f, Option.bind_some, hm']
      exact Ev.no (by decide) (Ev.no (by decide) hj)
end Go.Proofs.Ytphfejboahcnhaa.Pure
