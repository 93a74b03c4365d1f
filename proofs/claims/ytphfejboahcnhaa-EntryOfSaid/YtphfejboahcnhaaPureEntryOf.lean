/- EntryOf, in plain data. -/
import Derived.Test.YtphfejboahcnhaaHEntL
import Derived.Test.YtphfejboahcnhaaHStmtEntryOf
namespace Go.Proofs.Ytphfejboahcnhaa.Pure
open Go.RowKit Go.Proofs.Ytphfejboahcnhaa.P Go.Proofs.YtphfejboahcnhaaW.PrintWords Go.Proofs.YtphfejboahcnhaaW.PrintLast
set_option linter.unusedVariables false
set_option linter.unusedSimpArgs false
theorem mem_take_succ (l : List SE) {i : Nat} (h : i < l.length) : (l.take (i + 1)).filter (fun x => decide (0 ≤ x.f0) && decide (x.f0 < 5)) = (l.take i).filter (fun x => decide (0 ≤ x.f0) && decide (x.f0 < 5)) ++ if 0 ≤ (rd_T25 l i).f0 ∧ (rd_T25 l i).f0 < 5 then [rd_T25 l i] else [] := by
  rw [List.take_succ_eq_append_getElem h, List.filter_append, rdE l h]
  congr 1
  by_cases hc : 0 ≤ l[i].f0 ∧ l[i].f0 < 5
  · rw [if_pos hc]; simp [hc]
  · rw [if_neg hc]
    simp only [List.filter_cons, List.filter_nil]
    rw [if_neg (by simpa using hc)]
theorem five (l : List SE) : (l.filter (isK 0)).length + (l.filter (isK 1)).length + (l.filter (isK 2)).length + (l.filter (isK 3)).length + (l.filter (isK 4)).length = (l.filter (fun x => decide (0 ≤ x.f0) && decide (x.f0 < 5))).length := by
  induction l with
  | nil => rfl
  | cons x l ih =>
    simp only [List.filter_cons, isK, beq_iff_eq, Bool.and_eq_true, decide_eq_true_eq]
    have ih' := ih
    unfold isK at ih'
    by_cases h0 : x.f0 = 0
    · rw [if_pos h0, if_neg (by omega), if_neg (by omega), if_neg (by omega), if_neg (by omega), if_pos (by omega)]
      simp only [List.length_cons]; omega
    · by_cases h1 : x.f0 = 1
      · rw [if_neg (by omega), if_pos h1, if_neg (by omega), if_neg (by omega), if_neg (by omega), if_pos (by omega)]
        simp only [List.length_cons]; omega
      · by_cases h2 : x.f0 = 2
        · rw [if_neg (by omega), if_neg (by omega), if_pos h2, if_neg (by omega), if_neg (by omega), if_pos (by omega)]
          simp only [List.length_cons]; omega
        · by_cases h3 : x.f0 = 3
          · rw [if_neg (by omega), if_neg (by omega), if_neg (by omega), if_pos h3, if_neg (by omega), if_pos (by omega)]
            simp only [List.length_cons]; omega
          · by_cases h4 : x.f0 = 4
            · rw [if_neg (by omega), if_neg (by omega), if_neg (by omega), if_neg (by omega), if_pos h4, if_pos (by omega)]
              simp only [List.length_cons]; omega
            · rw [if_neg h0, if_neg h1, if_neg h2, if_neg h3, if_neg h4, if_neg (by omega)]
              exact ih'
theorem l2_loop (l : List SE) (kd n m : Int) (xs : List SE) (hx : ∀ y ∈ xs, y.f0 = kd) (hn : n = m) (hl : xs.length ≤ l.length) (hm : l.length ≤ 300) : ∀ (d i : Nat), i + d = xs.length → Ev (fun k => pelicanlaw10_EntryOf.l2 k l kd n m xs (i : Int)) true := by
  intro d
  induction d with
  | zero =>
    intro i hi
    refine Ev.step (f := fun _ => some true) (fun k => ?_) (Ev.const rfl)
    simp only [pelicanlaw10_EntryOf.l2]
    rw [if_neg (by omega), if_pos hn, decide_eq_true (by omega)]
  | succ d ih =>
    intro i hi
    have hi1 : i < xs.length := by omega
    refine Ev.step (f := fun k => pelicanlaw10_EntryOf.l2 k l kd n m xs ((i + 1 : Nat) : Int)) (fun k => ?_) (ih (i + 1) (by omega))
    simp only [pelicanlaw10_EntryOf.l2]
    rw [if_pos (by omega), if_pos (by omega), if_pos (by rw [rdE xs hi1]; exact hx _ (List.getElem_mem hi1)), w64 (by omega) (by omega)]
    rfl
theorem l1_loop (l : List SE) (kd n : Int) (hm : l.length ≤ 300) (hn : n = ((l.filter (fun x => decide (0 ≤ x.f0) && decide (x.f0 < 5))).length : Int)) : ∀ (d i : Nat), i + d = l.length → Ev (fun k => pelicanlaw10_EntryOf.l1 k l kd n (((l.take i).filter (fun x => decide (0 ≤ x.f0) && decide (x.f0 < 5))).length : Int) (i : Int)) true := by
  intro d
  induction d with
  | zero =>
    intro i hi
    refine Ev.step (fun k => by rw [pelicanlaw10_EntryOf.l1]) ?_
    refine Ev.no (by omega) ?_
    simp only [of_f l kd (by omega), Option.bind_some]
    refine l2_loop l kd _ _ _ (fun y hy => ?_) ?_ (List.length_filter_le _ _) hm (l.filter (isK kd)).length 0 (by omega)
    · have := (List.mem_filter.1 hy).2
      simpa [isK] using this
    · rw [hn, List.take_of_length_le (by omega)]
  | succ d ih =>
    intro i hi
    have hi1 : i < l.length := by omega
    have ih' := ih (i + 1) (by omega)
    have hle : ((l.take i).filter (fun x => decide (0 ≤ x.f0) && decide (x.f0 < 5))).length ≤ 300 := Nat.le_trans (List.length_filter_le _ _) (by rw [List.length_take]; omega)
    rw [mem_take_succ l hi1] at ih'
    refine Ev.step (fun k => by rw [pelicanlaw10_EntryOf.l1]) ?_
    refine Ev.yes (by omega) (Ev.yes (by omega) (Ev.ite (fun h0 => Ev.ite (fun h5 => ?_) (fun h5 => ?_)) (fun h0 => ?_)))
    · rw [if_pos ⟨h0, h5⟩] at ih'
      rw [w64 (by omega) (by omega), w64 (by omega) (by omega)]
      simpa using ih'
    · rw [if_neg (fun h => h5 h.2)] at ih'
      rw [w64 (by omega) (by omega)]
      simpa using ih'
    · rw [if_neg (fun h => h0 h.1)] at ih'
      rw [w64 (by omega) (by omega)]
      simpa using ih'
theorem EntryOf : pelicanlaw10_EntryOf.PureS := by
  intro l kd hl hkd
  refine Ev.rounds ?_
  unfold pelicanlaw10_EntryOf.f
  refine Ev.bind awake_ev (Ev.yes rfl ?_)
  by_cases h300 : (l.length : Int) > 300
  · rw [decide_eq_true h300]
    exact Ev.step (f := fun _ => some true) (fun k => by simp [pelicanlaw10_EntryOf.j0]) (Ev.const rfl)
  · rw [decide_eq_false h300]
    refine Ev.step (fun k => by rw [pelicanlaw10_EntryOf.j0]) (Ev.no (by decide) ?_)
    have hb : ∀ j, (l.filter (isK j)).length ≤ 300 := fun j => Nat.le_trans (List.length_filter_le _ _) (by omega)
    have b0 := hb 0
    have b1 := hb 1
    have b2 := hb 2
    have b3 := hb 3
    have b4 := hb 4
    have h5 := five l
    have hs : ∀ j, entry_Of.f l j = some (l.filter (isK j)) := fun j => of_f l j (by omega)
    refine Ev.step (fun k => by rw [pelicanlaw10_EntryOf.l0]) (Ev.yes (by decide) ?_)
    simp only [hs, Option.bind_some]
    rw [show wrap64 (0 + 1) = 1 by unfold wrap64; omega, w64 (by omega) (by omega)]
    refine Ev.step (fun k => by rw [pelicanlaw10_EntryOf.l0]) (Ev.yes (by decide) ?_)
    simp only [hs, Option.bind_some]
    rw [show wrap64 (1 + 1) = 2 by unfold wrap64; omega, w64 (by omega) (by omega)]
    refine Ev.step (fun k => by rw [pelicanlaw10_EntryOf.l0]) (Ev.yes (by decide) ?_)
    simp only [hs, Option.bind_some]
    rw [show wrap64 (2 + 1) = 3 by unfold wrap64; omega, w64 (by omega) (by omega)]
    refine Ev.step (fun k => by rw [pelicanlaw10_EntryOf.l0]) (Ev.yes (by decide) ?_)
    simp only [hs, Option.bind_some]
    rw [show wrap64 (3 + 1) = 4 by unfold wrap64; omega, w64 (by omega) (by omega)]
    refine Ev.step (fun k => by rw [pelicanlaw10_EntryOf.l0]) (Ev.yes (by decide) ?_)
    simp only [hs, Option.bind_some]
    rw [show wrap64 (4 + 1) = 5 by unfold wrap64; omega, w64 (by omega) (by omega)]
    refine Ev.step (fun k => by rw [pelicanlaw10_EntryOf.l0]) (Ev.no (by decide) ?_)
    have := l1_loop l kd (0 + ((l.filter (isK 0)).length : Int) + ((l.filter (isK 1)).length : Int) + ((l.filter (isK 2)).length : Int) + ((l.filter (isK 3)).length : Int) + ((l.filter (isK 4)).length : Int)) (by omega) (by omega) l.length 0 (by omega)
    simpa using this
end Go.Proofs.Ytphfejboahcnhaa.Pure
