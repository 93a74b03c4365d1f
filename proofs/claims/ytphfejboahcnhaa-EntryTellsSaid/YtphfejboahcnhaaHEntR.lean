/- Plain facts about the references of entries. -/
import Derived.Test.YtphfejboahcnhaaPx9
import Derived.Test.YtphfejboahcnhaaHEntL
import Derived.Test.YtphfejboahcnhaaHRefP
namespace Go.Proofs.Ytphfejboahcnhaa.P
open Go.RowKit Go.Proofs.YtphfejboahcnhaaW.PrintWords Go.Proofs.YtphfejboahcnhaaW.PrintLast
set_option linter.unusedVariables false
set_option linter.unusedSimpArgs false
theorem ref_same_loop (a b : List SE) (hl : a.length = b.length) (hm : a.length ≤ 140737488355328) : ∀ (d i : Nat), i + d = a.length → Ev (fun k => pelicanref10_Same.l0 k a b (i : Int)) (sameL (a.drop i) (b.drop i)) := by
  intro d
  induction d with
  | zero =>
    intro i hi
    refine Ev.step (f := fun _ => some true) (fun k => ?_) (Ev.const ?_)
    · simp only [pelicanref10_Same.l0]
      rw [if_neg (by omega)]
    · rw [List.drop_of_length_le (by omega), List.drop_of_length_le (by omega)]; rfl
  | succ d ih =>
    intro i hi
    have hi1 : i < a.length := by omega
    have hi2 : i < b.length := by omega
    rw [drop_E a hi1, drop_E b hi2]
    have ih' := ih (i + 1) (by omega)
    by_cases he : eqE (rd_T25 a i) (rd_T25 b i) = true
    · refine Ev.step (f := fun k => pelicanref10_Same.l0 k a b ((i + 1 : Nat) : Int)) (fun k => ?_) ?_
      · simp only [pelicanref10_Same.l0]
        rw [if_pos (by omega), if_pos (by omega), if_pos (by omega), neE, he, if_neg (by decide), w64 (by omega) (by omega)]
        rfl
      · simpa [sameL, he] using ih'
    · have he' := Bool.eq_false_iff.mpr he
      refine Ev.step (f := fun _ => some false) (fun k => ?_) (Ev.const ?_)
      · simp only [pelicanref10_Same.l0]
        rw [if_pos (by omega), if_pos (by omega), if_pos (by omega), neE, he', if_pos (by decide)]
      · simp [sameL, he']
theorem ref_same_ev (a b : List SE) (hm : a.length ≤ 140737488355328) : Ev (fun k => pelicanref10_Same.f k a b) (sameL a b) := by
  by_cases hl : a.length = b.length
  · have := ref_same_loop a b hl hm a.length 0 (by omega)
    refine Ev.congr (fun k => ?_) this
    unfold pelicanref10_Same.f
    rw [if_pos (by omega)]
    rfl
  · rw [sameL_len hl]
    refine Ev.congr (f := fun _ => some false) (fun k => ?_) (Ev.const rfl)
    unfold pelicanref10_Same.f
    rw [if_neg (by omega)]
theorem of_loop (l : List SE) (kd : Int) (hm : l.length < 1954687338268) : ∀ (d i : Nat) (acc : List SE), i + d = l.length → acc.length ≤ i → Ev (fun k => pelicanref10_Of.l0 k l kd acc (i : Int)) (acc ++ (l.drop i).filter (isK kd)) := by
  intro d
  induction d with
  | zero =>
    intro i acc hi ha
    refine Ev.step (f := fun _ => some acc) (fun k => ?_) (Ev.const ?_)
    · simp only [pelicanref10_Of.l0]
      rw [if_neg (by omega)]
    · rw [List.drop_of_length_le (by omega)]; simp
  | succ d ih =>
    intro i acc hi ha
    have hi1 : i < l.length := by omega
    rw [drop_E l hi1]
    by_cases hk : (rd_T25 l i).f0 = kd
    · have ih' := ih (i + 1) (acc ++ [rd_T25 l i]) (by omega) (by simp; omega)
      refine Ev.step (f := fun k => pelicanref10_Of.l0 k l kd (acc ++ [rd_T25 l i]) ((i + 1 : Nat) : Int)) (fun k => ?_) ?_
      · simp only [pelicanref10_Of.l0]
        rw [if_pos (by omega), if_pos (by omega), if_pos hk, if_pos (by omega), w64 (by omega) (by omega)]
        rfl
      · have hb : isK kd (rd_T25 l i) = true := by simp [isK, hk]
        rw [List.filter_cons_of_pos hb]
        simpa using ih'
    · have ih' := ih (i + 1) acc (by omega) (by omega)
      refine Ev.step (f := fun k => pelicanref10_Of.l0 k l kd acc ((i + 1 : Nat) : Int)) (fun k => ?_) ?_
      · simp only [pelicanref10_Of.l0]
        rw [if_pos (by omega), if_pos (by omega), if_neg hk, w64 (by omega) (by omega)]
        rfl
      · have hb : ¬ isK kd (rd_T25 l i) = true := by simp [isK, hk]
        rw [List.filter_cons_of_neg hb]
        exact ih'
theorem ref_of_ev (l : List SE) (kd : Int) (hm : l.length < 1954687338268) : Ev (fun k => pelicanref10_Of.f k l kd) (l.filter (isK kd)) := by
  have := of_loop l kd hm l.length 0 [] (by omega) (by simp)
  simpa [pelicanref10_Of.f] using this
theorem epoch_loop (l : List SE) (hm : l.length < 1954687338268) : ∀ (d i : Nat) (e : Int), i + d = l.length → Ev (fun k => pelicanref10_Epoch.l0 k l e (i : Int)) (((l.drop i).filter (isK 0)).foldl (fun _ x => x.f2) e) := by
  intro d
  induction d with
  | zero =>
    intro i e hi
    refine Ev.step (f := fun _ => some e) (fun k => ?_) (Ev.const ?_)
    · simp only [pelicanref10_Epoch.l0]
      rw [if_neg (by omega)]
    · rw [List.drop_of_length_le (by omega)]; simp
  | succ d ih =>
    intro i e hi
    have hi1 : i < l.length := by omega
    rw [drop_E l hi1]
    by_cases hk : (rd_T25 l i).f0 = 0
    · have ih' := ih (i + 1) (rd_T25 l i).f2 (by omega)
      refine Ev.step (f := fun k => pelicanref10_Epoch.l0 k l (rd_T25 l i).f2 ((i + 1 : Nat) : Int)) (fun k => ?_) ?_
      · simp only [pelicanref10_Epoch.l0]
        rw [if_pos (by omega), if_pos (by omega), if_pos hk, w64 (by omega) (by omega)]
        rfl
      · have hb : isK 0 (rd_T25 l i) = true := by simp [isK, hk]
        rw [List.filter_cons_of_pos hb]
        exact ih'
    · have ih' := ih (i + 1) e (by omega)
      refine Ev.step (f := fun k => pelicanref10_Epoch.l0 k l e ((i + 1 : Nat) : Int)) (fun k => ?_) ?_
      · simp only [pelicanref10_Epoch.l0]
        rw [if_pos (by omega), if_pos (by omega), if_neg hk, w64 (by omega) (by omega)]
        rfl
      · have hb : ¬ isK 0 (rd_T25 l i) = true := by simp [isK, hk]
        rw [List.filter_cons_of_neg hb]
        exact ih'
theorem ref_epoch_ev (l : List SE) (hm : l.length < 1954687338268) : Ev (fun k => pelicanref10_Epoch.f k l) (lastE (l.filter (isK 0))) := by
  have := epoch_loop l hm l.length 0 0 (by omega)
  exact this
end Go.Proofs.Ytphfejboahcnhaa.P
