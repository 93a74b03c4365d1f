/- EntryTells, in plain data. -/
import Derived.Test.YtphfejboahcnhaaHEntR
import Derived.Test.YtphfejboahcnhaaHStmtEntryTells
namespace Go.Proofs.Ytphfejboahcnhaa.Pure
open Go.RowKit Go.Proofs.Ytphfejboahcnhaa.P Go.Proofs.YtphfejboahcnhaaW.PrintWords Go.Proofs.YtphfejboahcnhaaW.PrintLast
set_option linter.unusedVariables false
set_option linter.unusedSimpArgs false
theorem ref_may_f (x : SE) : pelicanref10_May.f x.f0 x.f1 x.f2 x.f3 x.f4 x.f5 x.f6 x.f7 x.f8 = some (mayE x) := by
  by_cases h : mayE x = true
  · rw [h]
    obtain ⟨h0, h1, h2, h3, h6, h7, h8⟩ := (mayE_iff x).1 h
    unfold pelicanref10_May.f
    rw [if_neg (by omega), if_neg (by omega), if_neg (by omega), if_neg (by omega), if_neg (by omega), if_neg (by omega), if_pos (by omega), if_pos (by omega), if_pos (by omega), if_pos (by omega), if_pos (by omega), if_pos (by omega), if_pos (by omega), decide_eq_true (by omega)]
  · have h' := h
    rw [mayE_iff] at h'
    rw [Bool.eq_false_iff.mpr h]
    unfold pelicanref10_May.f
    by_cases c0 : x.f0 < 0
    · rw [if_pos c0]
    rw [if_neg c0]
    by_cases c1 : x.f0 ≥ 5
    · rw [if_pos c1]
    rw [if_neg c1]
    by_cases c2 : x.f1 < 0
    · rw [if_pos c2]
    rw [if_neg c2]
    by_cases c3 : x.f1 > 1073741824
    · rw [if_pos c3]
    rw [if_neg c3]
    by_cases c4 : x.f2 < 0
    · rw [if_pos c4]
    rw [if_neg c4]
    by_cases c5 : x.f2 > 1073741824
    · rw [if_pos c5]
    rw [if_neg c5]
    by_cases c6 : x.f3 ≥ 0
    rotate_left
    · rw [if_neg c6]
    rw [if_pos c6]
    by_cases c7 : x.f3 ≤ 255
    rotate_left
    · rw [if_neg c7]
    rw [if_pos c7]
    by_cases c8 : x.f6 ≥ 0
    rotate_left
    · rw [if_neg c8]
    rw [if_pos c8]
    by_cases c9 : x.f6 ≤ 255
    rotate_left
    · rw [if_neg c9]
    rw [if_pos c9]
    by_cases c10 : x.f7 ≥ 0
    rotate_left
    · rw [if_neg c10]
    rw [if_pos c10]
    by_cases c11 : x.f7 ≤ 65535
    rotate_left
    · rw [if_neg c11]
    rw [if_pos c11]
    by_cases c12 : x.f8 ≥ 0
    rotate_left
    · rw [if_neg c12]
    rw [if_pos c12]
    rw [decide_eq_false (by omega)]
theorem ref_put_ev10 {x : SE} (hu : uE x) : Ev (fun k => pelicanref10_Put.f k x.f0 x.f1 x.f2 x.f3 x.f4 x.f5 x.f6 x.f7 x.f8) (if mayE x = true then (bytesE x, true) else ([], false)) := by
  unfold pelicanref10_Put.f
  rw [ref_may_f]
  simp only [Option.bind_some]
  by_cases h : mayE x = true
  · simp only [h, if_true]
    obtain ⟨h0, h1, h2, h3, h6, h7, h8⟩ := (mayE_iff x).1 h
    obtain ⟨o1, o2⟩ := ents_ok h hu
    rw [wrap_u64_id (by omega) (by omega), wrap_u64_id (by omega) (by omega), wrap_u64_id (by omega) (by omega), wrap_u64_id (by omega) (by omega), wrap_u64_id (by omega) (by omega), wrap_u64_id (by omega) (by omega), wrap_u64_id (by omega) (by omega)]
    have := ref_cat_ev (entsE x) o1
    rw [if_pos ⟨by simp [entsE, entNums], o2⟩] at this
    exact Ev.bind this (Ev.const rfl)
  · simp only [h]
    exact Ev.const (by simp)
theorem ref_get_ev10 (b : List Int) (hb : ∀ x ∈ b, 0 ≤ x ∧ x < 256) (hbl : b.length ≤ 140737488351232) : Ev (fun k => pelicanref10_Get.f k b) (tupE (getE b).1 (getE b).2) := by
  unfold pelicanref10_Get.f
  have hc := ref_cut_ev b hb hbl ksE (by decide)
  by_cases hl : b.length = 30
  · rw [if_pos ⟨by decide, (okS_30 b).2 hl⟩] at hc
    refine Ev.bind hc ?_
    obtain ⟨h9, _⟩ := cut_vals b hb hl
    obtain ⟨hu, w0, w1, w2, w3, w6, w7, w8⟩ := vals_small hb hl
    dsimp only
    rw [h9, w0, w1, w2, w3, w6, w7, w8]
    refine Ev.yes rfl (Ev.yes (by decide) (Ev.yes (by decide) (Ev.yes (by decide) (Ev.yes (by decide) (Ev.yes (by decide) (Ev.yes (by decide) (Ev.yes (by decide) (Ev.yes (by decide) (Ev.yes (by decide) ?_)))))))))
    refine Ev.bind (ref_put_ev10 (x := ofVs (cutV b ksE)) hu) ?_
    by_cases hm : mayE (ofVs (cutV b ksE)) = true
    · have hg : getE b = (ofVs (cutV b ksE), true) := by unfold getE; rw [if_pos ⟨hl, hm⟩]
      rw [if_pos hm, hg, (cut_vals b hb hl).2.2.2.1]
      exact Ev.yes rfl (Ev.yes rfl (Ev.const rfl))
    · have hg : getE b = (zeroE, false) := by unfold getE; rw [if_neg (fun h => hm h.2)]
      rw [if_neg hm, hg]
      exact Ev.no (by decide) (Ev.const rfl)
  · rw [if_neg (fun h => hl ((okS_30 b).1 h.2))] at hc
    refine Ev.bind hc ?_
    have hg : getE b = (zeroE, false) := by unfold getE; rw [if_neg (fun h => hl h.1)]
    rw [hg]
    exact Ev.no (by decide) (Ev.const rfl)
theorem EntryTells : pelicanlaw10_EntryTells.PureS := by
  intro e b l m kd he hb0 hl hm hkd
  have hb : ∀ x ∈ b, 0 ≤ x ∧ x < 256 := fun x hx => wf_u8.1 (hb0.2 x hx)
  have ue : uE e := ⟨wf_u64.1 he.2.2.2.2.1, wf_u64.1 he.2.2.2.2.2.1⟩
  have early : Ev (fun k => pelicanlaw10_EntryTells.j0 k b l m kd true true e.f0 e.f1 e.f2 e.f3 e.f4 e.f5 e.f6 e.f7 e.f8) true :=
    Ev.step (f := fun _ => some true) (fun k => by rw [pelicanlaw10_EntryTells.j0, if_pos rfl]) (Ev.const rfl)
  refine Ev.rounds ?_
  unfold pelicanlaw10_EntryTells.f
  refine Ev.bind awake_ev (Ev.yes rfl (Ev.ite (fun _ => early) fun h100 => Ev.ite (fun _ => early) fun h300 => ?_))
  by_cases h3 : (m.length : Int) > 300
  · rw [decide_eq_true h3]; exact early
  · rw [decide_eq_false h3]
    refine Ev.step (fun k => by rw [pelicanlaw10_EntryTells.j0]) (Ev.no (by decide) ?_)
    refine Ev.bind (put_ev ue) (Ev.bind (ref_put_ev10 ue) (Ev.bind (get_ev b hb (by omega)) (Ev.bind (ref_get_ev10 b hb (by omega)) ?_)))
    simp only [ref_may_f, Option.bind_some]
    refine Ev.bind (ref_same_ev l m (by omega)) ?_
    simp only [of_f l kd (by omega), Option.bind_some]
    refine Ev.bind (ref_of_ev l kd (by omega)) (Ev.bind (ref_same_ev _ _ (Nat.le_trans (List.length_filter_le _ _) (by omega))) ?_)
    refine Ev.yes (by first | exact rfl | exact trivial) (Ev.yes (by simp) (Ev.yes (by simp [tupE]) (Ev.yes (by simp [tupE]) ?_)))
    simp only [may_f, Option.bind_some]
    refine Ev.yes (by simp) (Ev.bind (same_ev l m (by omega)) (Ev.yes (by simp) (Ev.yes ((sameL_iff _ _).2 rfl) ?_)))
    simp only [epoch_f, Option.bind_some]
    refine Ev.bind (ref_epoch_ev l (by omega)) (Ev.const (by simp))
end Go.Proofs.Ytphfejboahcnhaa.Pure
