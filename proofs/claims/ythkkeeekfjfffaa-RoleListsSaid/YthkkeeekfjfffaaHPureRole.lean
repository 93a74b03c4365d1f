/- What the functions of role and of its reference tell, in plain data. -/
import Derived.Test.YthkkeeekfjfffaaPx
import Derived.Test.YthkkeeekfjfffaaHPureKit
namespace Go.Proofs.Ythkkeeekfjfffaa.P
open Go.RowKit Go.Proofs.YthkkeeekfjfffaaW.PrintWords Go.Proofs.YthkkeeekfjfffaaW.PrintLast Go.Proofs.YthkkeeekfjfffaaW.PrintMore
set_option linter.unusedVariables false
set_option linter.unusedSimpArgs false
set_option maxRecDepth 100000
theorem roles (r : Int) : (¬ (0 ≤ r ∧ r < 4)) ∨ r = 0 ∨ r = 1 ∨ r = 2 ∨ r = 3 := by omega
theorem cmds (c : Int) : (¬ (0 ≤ c ∧ c < 8)) ∨ c = 0 ∨ c = 1 ∨ c = 2 ∨ c = 3 ∨ c = 4 ∨ c = 5 ∨ c = 6 ∨ c = 7 := by omega
def isB (r : Int) : Bool := decide (0 ≤ r ∧ r < 4)
def turnsB (c : Int) : Bool := decide (1 ≤ c ∧ c < 7)
theorem is_f (r : Int) : role_Is.f r = some (isB r) := by
  unfold role_Is.f isB
  by_cases h : r ≥ 0
  · rw [if_pos h]; congr 1; simp; omega
  · rw [if_neg h]; congr 1; simp; omega
theorem ris_f (r : Int) : pelicanref07_Is.f r = some (isB r) := by
  unfold pelicanref07_Is.f isB
  by_cases h : r ≥ 0
  · rw [if_pos h]; congr 1; simp; omega
  · rw [if_neg h]; congr 1; simp; omega
theorem turns_f (c : Int) : role_Turns.f c = some (turnsB c) := by
  rcases cmds c with h | rfl | rfl | rfl | rfl | rfl | rfl | rfl | rfl
  · unfold role_Turns.f role_is.f turnsB
    have h2 : decide (1 ≤ c ∧ c < 7) = false := by simp; omega
    rw [h2]
    by_cases h0 : c ≥ 0
    · rw [if_pos h0]
      have : decide (c < 8) = false := by simp; omega
      simp [this]
    · rw [if_neg h0]
      simp
  all_goals rfl
theorem rturns_f (c : Int) : pelicanref07_Turns.f c = some (turnsB c) := by
  unfold pelicanref07_Turns.f turnsB
  by_cases h0 : c ≥ 1
  · rw [if_pos h0, decide_eq_decide.2 (show c ≤ 6 ↔ (1 ≤ c ∧ c < 7) by omega)]
  · rw [if_neg h0, decide_eq_false (show ¬ (1 ≤ c ∧ c < 7) by omega)]
theorem may_f (r c : Int) : role_May.f r c = some (mayB r c) := rfl
theorem may_out (r c : Int) (h : ¬ (0 ≤ r ∧ r < 4 ∧ 0 ≤ c ∧ c < 8)) : mayB r c = false := by unfold mayB; rw [if_neg h]
theorem rmay_f (r c : Int) (k : Nat) : pelicanref07_May.f (k + 3) r c = some (mayB r c) := by
  unfold pelicanref07_May.f
  rw [ris_f, Option.bind_some]
  rcases cmds c with h | h
  · rw [may_out r c (by omega)]
    have n0 : ¬ c = 0 := by omega
    have n1 : ¬ c = 1 := by omega
    have n2 : ¬ c = 2 := by omega
    have n3 : ¬ c = 3 := by omega
    have n4 : ¬ c = 4 := by omega
    have n5 : ¬ c = 5 := by omega
    have n6 : ¬ c = 6 := by omega
    have n7 : ¬ c = 7 := by omega
    have b7 : (c == 7) = false := by simpa using n7
    have b3 : (c == 3) = false := by simpa using n3
    simp [pelicanref07_May.j0, pelicanref07_May.j1, n0, n1, n2, n3, n4, n5, n6, n7, b7, b3]
  · rcases roles r with hr | rfl | rfl | rfl | rfl
    · rw [may_out r c (by omega)]
      have n0 : ¬ r = 0 := by omega
      have n1 : ¬ r = 1 := by omega
      have n2 : ¬ r = 2 := by omega
      have n3 : ¬ r = 3 := by omega
      have b2 : (r == 2) = false := by simpa using n2
      have b3 : (r == 3) = false := by simpa using n3
      have hi : isB r = false := by unfold isB; simp; omega
      rcases h with rfl | rfl | rfl | rfl | rfl | rfl | rfl | rfl <;>
      simp [pelicanref07_May.j0, pelicanref07_May.j1, n0, n1, n2, n3, b2, b3, hi]
    all_goals rcases h with rfl | rfl | rfl | rfl | rfl | rfl | rfl | rfl <;> rfl
theorem rmay_ev (r c : Int) : Ev (fun k => pelicanref07_May.f k r c) (mayB r c) := ⟨3, fun k hk => by
  obtain ⟨j, rfl⟩ : ∃ j, k = j + 3 := ⟨k - 3, by omega⟩
  exact rmay_f r c j⟩
def allL (r : Int) : List Int := ([0, 1, 2, 3, 4, 5, 6, 7] : List Int).filter (mayB r)
def whoL (c : Int) : List Int := ([0, 1, 2, 3] : List Int).filter (fun r => mayB r c)
theorem all_ev (r : Int) : Ev (fun k => role_All.f k r) (allL r) := by
  have hs : ∀ (n : Nat) (i : Int) (d acc : List Int), (8 - i).toNat = n → 0 ≤ i → i ≤ 8 → acc.length ≤ 8 - (8 - i).toNat → Ev (fun k => role_All.l0 k r acc i) (acc ++ (([0, 1, 2, 3, 4, 5, 6, 7] : List Int).drop i.toNat).filter (mayB r)) := by
    intro n
    induction n with
    | zero =>
      intro i d acc hn h0 h8 hl
      obtain rfl : i = 8 := by omega
      exact Ev.step (f := fun _ => some acc) (fun k => by simp only [role_All.l0]; rw [if_neg (by omega)]) (Ev.const (by simp))
    | succ n ih =>
      intro i d acc hn h0 h8 hl
      have hw : wrap64 (i + 1) = i + 1 := w64 (by omega) (by omega)
      have hd : ([0, 1, 2, 3, 4, 5, 6, 7] : List Int).drop i.toNat = i :: ([0, 1, 2, 3, 4, 5, 6, 7] : List Int).drop (i + 1).toNat := by
        rcases cmds i with h | rfl | rfl | rfl | rfl | rfl | rfl | rfl | rfl
        · omega
        all_goals rfl
      rw [hd, List.filter_cons]
      by_cases hm : mayB r i = true
      · have := ih (i + 1) d (acc ++ [i]) (by omega) (by omega) (by omega) (by simp; omega)
        rw [if_pos hm]
        refine Ev.step (fun k => ?_) (by simpa using this)
        simp only [role_All.l0]
        rw [if_pos (by omega), may_f, Option.bind_some, if_pos hm, if_pos (by omega), hw]
      · have := ih (i + 1) d acc (by omega) (by omega) (by omega) (by omega)
        rw [if_neg hm]
        refine Ev.step (fun k => ?_) this
        simp only [role_All.l0]
        rw [if_pos (by omega), may_f, Option.bind_some, if_neg hm, hw]
  exact hs 8 0 [] [] rfl (by omega) (by omega) (by simp)
theorem rall_ev (r : Int) : Ev (fun k => pelicanref07_All.f k r) (allL r) := by
  have hs : ∀ (n : Nat) (i : Int) (acc : List Int), (8 - i).toNat = n → 0 ≤ i → i ≤ 8 → acc.length ≤ 8 - (8 - i).toNat → Ev (fun k => pelicanref07_All.l0 k r acc i) (acc ++ (([0, 1, 2, 3, 4, 5, 6, 7] : List Int).drop i.toNat).filter (mayB r)) := by
    intro n
    induction n with
    | zero =>
      intro i acc hn h0 h8 hl
      obtain rfl : i = 8 := by omega
      exact Ev.step (f := fun _ => some acc) (fun k => by simp only [pelicanref07_All.l0]; rw [if_neg (by omega)]) (Ev.const (by simp))
    | succ n ih =>
      intro i acc hn h0 h8 hl
      have hw : wrap64 (i + 1) = i + 1 := w64 (by omega) (by omega)
      have hd : ([0, 1, 2, 3, 4, 5, 6, 7] : List Int).drop i.toNat = i :: ([0, 1, 2, 3, 4, 5, 6, 7] : List Int).drop (i + 1).toNat := by
        rcases cmds i with h | rfl | rfl | rfl | rfl | rfl | rfl | rfl | rfl
        · omega
        all_goals rfl
      rw [hd, List.filter_cons]
      by_cases hm : mayB r i = true
      · have := ih (i + 1) (acc ++ [i]) (by omega) (by omega) (by omega) (by simp; omega)
        rw [if_pos hm]
        refine Ev.step (fun k => ?_) (Ev.bind (rmay_ev r i) (f := fun k t => if t = true then (if acc.length < 17592186044416 then (pelicanref07_All.l0 k r (acc ++ [i]) (wrap64 (i + 1))) else none) else (pelicanref07_All.l0 k r acc (wrap64 (i + 1)))) (Ev.yes hm (Ev.yes (by omega) (by rw [hw]; simpa using this))))
        simp only [pelicanref07_All.l0]
        rw [if_pos (by omega)]
      · have := ih (i + 1) acc (by omega) (by omega) (by omega) (by omega)
        rw [if_neg hm]
        refine Ev.step (fun k => ?_) (Ev.bind (rmay_ev r i) (f := fun k t => if t = true then (if acc.length < 17592186044416 then (pelicanref07_All.l0 k r (acc ++ [i]) (wrap64 (i + 1))) else none) else (pelicanref07_All.l0 k r acc (wrap64 (i + 1)))) (Ev.no hm (by rw [hw]; exact this)))
        simp only [pelicanref07_All.l0]
        rw [if_pos (by omega)]
  exact hs 8 0 [] rfl (by omega) (by omega) (by simp)
theorem who_ev (c : Int) : Ev (fun k => role_Who.f k c) (whoL c) := by
  have hs : ∀ (n : Nat) (i : Int) (acc : List Int), (4 - i).toNat = n → 0 ≤ i → i ≤ 4 → acc.length ≤ 4 - (4 - i).toNat → Ev (fun k => role_Who.l0 k c acc i) (acc ++ (([0, 1, 2, 3] : List Int).drop i.toNat).filter (fun r => mayB r c)) := by
    intro n
    induction n with
    | zero =>
      intro i acc hn h0 h8 hl
      obtain rfl : i = 4 := by omega
      exact Ev.step (f := fun _ => some acc) (fun k => by simp only [role_Who.l0]; rw [if_neg (by omega)]) (Ev.const (by simp))
    | succ n ih =>
      intro i acc hn h0 h8 hl
      have hw : wrap64 (i + 1) = i + 1 := w64 (by omega) (by omega)
      have hd : ([0, 1, 2, 3] : List Int).drop i.toNat = i :: ([0, 1, 2, 3] : List Int).drop (i + 1).toNat := by
        rcases roles i with h | rfl | rfl | rfl | rfl
        · omega
        all_goals rfl
      rw [hd, List.filter_cons]
      by_cases hm : mayB i c = true
      · have := ih (i + 1) (acc ++ [i]) (by omega) (by omega) (by omega) (by simp; omega)
        rw [if_pos hm]
        refine Ev.step (fun k => ?_) (by simpa using this)
        simp only [role_Who.l0]
        rw [if_pos (by omega), may_f, Option.bind_some, if_pos hm, if_pos (by omega), hw]
      · have := ih (i + 1) acc (by omega) (by omega) (by omega) (by omega)
        rw [if_neg hm]
        refine Ev.step (fun k => ?_) this
        simp only [role_Who.l0]
        rw [if_pos (by omega), may_f, Option.bind_some, if_neg hm, hw]
  exact hs 4 0 [] rfl (by omega) (by omega) (by simp)
theorem rwho_ev (c : Int) : Ev (fun k => pelicanref07_Who.f k c) (whoL c) := by
  have hs : ∀ (n : Nat) (i : Int) (acc : List Int), (4 - i).toNat = n → 0 ≤ i → i ≤ 4 → acc.length ≤ 4 - (4 - i).toNat → Ev (fun k => pelicanref07_Who.l0 k c acc i) (acc ++ (([0, 1, 2, 3] : List Int).drop i.toNat).filter (fun r => mayB r c)) := by
    intro n
    induction n with
    | zero =>
      intro i acc hn h0 h8 hl
      obtain rfl : i = 4 := by omega
      exact Ev.step (f := fun _ => some acc) (fun k => by simp only [pelicanref07_Who.l0]; rw [if_neg (by omega)]) (Ev.const (by simp))
    | succ n ih =>
      intro i acc hn h0 h8 hl
      have hw : wrap64 (i + 1) = i + 1 := w64 (by omega) (by omega)
      have hd : ([0, 1, 2, 3] : List Int).drop i.toNat = i :: ([0, 1, 2, 3] : List Int).drop (i + 1).toNat := by
        rcases roles i with h | rfl | rfl | rfl | rfl
        · omega
        all_goals rfl
      rw [hd, List.filter_cons]
      by_cases hm : mayB i c = true
      · have := ih (i + 1) (acc ++ [i]) (by omega) (by omega) (by omega) (by simp; omega)
        rw [if_pos hm]
        refine Ev.step (fun k => ?_) (Ev.bind (rmay_ev i c) (f := fun k t => if t = true then (if acc.length < 17592186044416 then (pelicanref07_Who.l0 k c (acc ++ [i]) (wrap64 (i + 1))) else none) else (pelicanref07_Who.l0 k c acc (wrap64 (i + 1)))) (Ev.yes hm (Ev.yes (by omega) (by rw [hw]; simpa using this))))
        simp only [pelicanref07_Who.l0]
        rw [if_pos (by omega)]
      · have := ih (i + 1) acc (by omega) (by omega) (by omega) (by omega)
        rw [if_neg hm]
        refine Ev.step (fun k => ?_) (Ev.bind (rmay_ev i c) (f := fun k t => if t = true then (if acc.length < 17592186044416 then (pelicanref07_Who.l0 k c (acc ++ [i]) (wrap64 (i + 1))) else none) else (pelicanref07_Who.l0 k c acc (wrap64 (i + 1)))) (Ev.no hm (by rw [hw]; exact this)))
        simp only [pelicanref07_Who.l0]
        rw [if_pos (by omega)]
  exact hs 4 0 [] rfl (by omega) (by omega) (by simp)
theorem ints_from (l : List Int) (hl : l.length < 1000) : ∀ (n i : Nat), l.length - i = n → i ≤ l.length → Ev (fun k => pelicanref05_Ints.l0 k l l (i : Int)) true := by
  intro n
  induction n with
  | zero =>
    intro i hn hi
    exact Ev.step (f := fun _ => some true) (fun k => by simp only [pelicanref05_Ints.l0]; rw [if_neg (by omega)]) (Ev.const rfl)
  | succ n ih =>
    intro i hn hi
    have hw : wrap64 ((i : Int) + 1) = ((i + 1 : Nat) : Int) := by rw [w64 (by omega) (by omega)]; rfl
    refine Ev.step (fun k => ?_) (ih (i + 1) (by omega) (by omega))
    simp only [pelicanref05_Ints.l0]
    rw [if_pos (by omega), if_pos (by omega), if_pos (by omega), hw]
    simp
theorem ints_ev (l : List Int) (hl : l.length < 1000) : Ev (fun k => pelicanref05_Ints.f k l l) true := by
  refine Ev.congr (fun k => ?_) (ints_from l hl _ 0 rfl (by omega))
  unfold pelicanref05_Ints.f
  rw [if_pos rfl]; rfl
theorem allL_len (r : Int) : (allL r).length < 1000 := Nat.lt_of_le_of_lt (List.length_filter_le _ _) (by decide)
theorem whoL_len (r : Int) : (whoL r).length < 1000 := Nat.lt_of_le_of_lt (List.length_filter_le _ _) (by decide)
theorem name_f (c : Int) : role_Name.f c = some (nameF c) := rfl
theorem rname_f (c : Int) : pelicanref07_Name.f c = some (nameF c) := by
  rcases cmds c with h | rfl | rfl | rfl | rfl | rfl | rfl | rfl | rfl
  · have n0 : ¬ c = 0 := by omega
    have n1 : ¬ c = 1 := by omega
    have n2 : ¬ c = 2 := by omega
    have n3 : ¬ c = 3 := by omega
    have n4 : ¬ c = 4 := by omega
    have n5 : ¬ c = 5 := by omega
    have n6 : ¬ c = 6 := by omega
    have n7 : ¬ c = 7 := by omega
    unfold pelicanref07_Name.f nameF
    rw [if_neg n0, if_neg n1, if_neg n2, if_neg n3, if_neg n4, if_neg n5, if_neg n6, if_neg n7, if_neg h]
  all_goals rfl
theorem read_f (s : ByteArray) : role_Read.f s = some (readF s) := rfl
theorem rread_ev (s : ByteArray) : Ev (fun k => pelicanref07_Read.f k s) (readF s) := by
  have hs : ∀ (n : Nat) (i : Nat), 8 - i = n → i ≤ 8 → Ev (fun k => pelicanref07_Read.l0 k s (i : Int)) (findFrom s (nameL.drop i) i) := by
    intro n
    induction n with
    | zero =>
      intro i hn h8
      obtain rfl : i = 8 := by omega
      exact Ev.step (f := fun _ => some (-1)) (fun k => by simp only [pelicanref07_Read.l0]; rw [if_neg (by omega)]) (Ev.const rfl)
    | succ n ih =>
      intro i hn h8
      have hw : wrap64 ((i : Int) + 1) = ((i + 1 : Nat) : Int) := by rw [w64 (by omega) (by omega)]; rfl
      have hd : nameL.drop i = nameF (i : Int) :: nameL.drop (i + 1) := by
        have : i = 0 ∨ i = 1 ∨ i = 2 ∨ i = 3 ∨ i = 4 ∨ i = 5 ∨ i = 6 ∨ i = 7 := by omega
        rcases this with rfl | rfl | rfl | rfl | rfl | rfl | rfl | rfl <;> rfl
      rw [hd]
      unfold findFrom
      by_cases hq : s.toList = (nameF (i : Int)).toList
      · rw [if_pos hq]
        refine Ev.step (f := fun _ => some (i : Int)) (fun k => ?_) (Ev.const rfl)
        simp only [pelicanref07_Read.l0]
        rw [if_pos (by omega), rname_f, Option.bind_some, if_pos hq.symm]
      · rw [if_neg hq]
        refine Ev.step (fun k => ?_) (ih (i + 1) (by omega) (by omega))
        simp only [pelicanref07_Read.l0]
        rw [if_pos (by omega), rname_f, Option.bind_some, if_neg (fun h => hq h.symm), hw]
  exact hs 8 0 rfl (by omega)
theorem awake_ev : Ev (fun k => pelicanlaw07_awake.f k) true := Ev.of (fun k => pelicanlaw07_awake.mono k) (k := 20) (by decide +kernel)
end Go.Proofs.Ythkkeeekfjfffaa.P
