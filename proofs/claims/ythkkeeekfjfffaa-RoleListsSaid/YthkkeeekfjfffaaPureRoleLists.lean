/- RoleLists, in plain data. -/
import Derived.Test.YthkkeeekfjfffaaHPureRole
import Derived.Test.YthkkeeekfjfffaaHStmtRoleLists
namespace Go.Proofs.Ythkkeeekfjfffaa.Pure
open Go.RowKit Go.Proofs.Ythkkeeekfjfffaa.P Go.Proofs.YthkkeeekfjfffaaW.PrintWords Go.Proofs.YthkkeeekfjfffaaW.PrintLast
set_option linter.unusedVariables false
set_option linter.unusedSimpArgs false
/-- A list that climbs. -/
def climbs : List Int → Bool
  | [] => true
  | [_] => true
  | x :: y :: l => decide (x < y) && climbs (y :: l)
theorem climbs_at : ∀ (l : List Int), climbs l = true → ∀ (i : Nat) x y, l[i]? = some x → l[i + 1]? = some y → x < y
  | [], _, i, x, y, h, _ => by simp at h
  | [_], _, i, x, y, h, h2 => by simp at h2
  | a :: b :: l, hc, 0, x, y, h, h2 => by
    simp only [climbs, Bool.and_eq_true, decide_eq_true_eq] at hc
    simp at h h2
    omega
  | a :: b :: l, hc, i + 1, x, y, h, h2 => by
    simp only [climbs, Bool.and_eq_true, decide_eq_true_eq] at hc
    exact climbs_at (b :: l) hc.2 i x y (by simpa using h) (by simpa using h2)
theorem rd_at {l : List Int} {i : Nat} (h : i < l.length) : l[i]? = some (rd l (i : Int)) := by
  simp [rd, h]
theorem climbs_rd {l : List Int} (hc : climbs l = true) {i : Nat} (h : i + 1 < l.length) : ¬ rd l ((i + 1 : Nat) : Int) ≤ rd l (i : Int) := by
  have := climbs_at l hc i _ _ (rd_at (by omega)) (rd_at h)
  omega
theorem allL_climbs (r : Int) : climbs (allL r) = true := by
  unfold allL
  generalize mayB r = p
  cases h0 : p 0 <;> cases h1 : p 1 <;> cases h2 : p 2 <;> cases h3 : p 3 <;> cases h4 : p 4 <;> cases h5 : p 5 <;> cases h6 : p 6 <;> cases h7 : p 7 <;> simp [List.filter, h0, h1, h2, h3, h4, h5, h6, h7, climbs]
theorem whoL_climbs (c : Int) : climbs (whoL c) = true := by
  unfold whoL
  generalize (fun r => mayB r c) = p
  cases h0 : p 0 <;> cases h1 : p 1 <;> cases h2 : p 2 <;> cases h3 : p 3 <;> simp [List.filter, h0, h1, h2, h3, climbs]
theorem allL_has (r c : Int) : (allL r).any (fun x => x == c) = mayB r c := by
  rcases cmds c with h | h
  · rw [may_out r c (by omega), List.any_eq_false]
    intro x hx
    have : x ∈ ([0, 1, 2, 3, 4, 5, 6, 7] : List Int) := (List.mem_filter.1 hx).1
    simp at this ⊢
    omega
  · unfold allL
    rw [Bool.eq_iff_iff, List.any_eq_true]
    constructor
    · rintro ⟨x, hx, he⟩
      have := (List.mem_filter.1 hx).2
      rw [beq_iff_eq] at he
      rwa [he] at this
    · intro hm
      refine ⟨c, List.mem_filter.2 ⟨?_, hm⟩, by simp⟩
      rcases h with rfl | rfl | rfl | rfl | rfl | rfl | rfl | rfl <;> simp
theorem whoL_has (r c : Int) : (whoL c).any (fun x => x == r) = mayB r c := by
  rcases roles r with h | h
  · rw [may_out r c (by omega), List.any_eq_false]
    intro x hx
    have : x ∈ ([0, 1, 2, 3] : List Int) := (List.mem_filter.1 hx).1
    simp at this ⊢
    omega
  · unfold whoL
    rw [Bool.eq_iff_iff, List.any_eq_true]
    constructor
    · rintro ⟨x, hx, he⟩
      have := (List.mem_filter.1 hx).2
      rw [beq_iff_eq] at he
      rwa [he] at this
    · intro hm
      refine ⟨r, List.mem_filter.2 ⟨?_, hm⟩, by simp⟩
      rcases h with rfl | rfl | rfl | rfl <;> simp
theorem drop_rd {l : List Int} {i : Nat} (h : i < l.length) : l.drop i = rd l (i : Int) :: l.drop (i + 1) := by
  rw [List.drop_eq_getElem_cons h]
  congr 1
  simp [rd, h]
theorem mem_rd {l : List Int} {i : Nat} (h : i < l.length) : rd l (i : Int) ∈ l := List.mem_of_getElem? (rd_at h)
theorem scan1 (x0 x1 x2 : Int) (x7 : Bool) (A W : List Int) (x10 : Bool) (r : Bool) (hA : A.length < 1000) (hW : W.length < 1000) (hc : climbs W = true)
    (hend : ∀ b k, b = W.any (fun x => x == x0) → pelicanlaw07_RoleLists.l1 (k + 1) x0 x1 x2 x7 A W x10 b (W.length : Int) = some r) :
    ∀ (n i : Nat) (b : Bool), W.length - i = n → i ≤ W.length → (b || (W.drop i).any (fun x => x == x0)) = W.any (fun x => x == x0) → Ev (fun k => pelicanlaw07_RoleLists.l1 k x0 x1 x2 x7 A W x10 b (i : Int)) r := by
  intro n
  induction n with
  | zero =>
    intro i b hn hi hb
    obtain rfl : i = W.length := by omega
    exact Ev.step (f := fun _ => some r) (fun k => hend b k (by simpa using hb)) (Ev.const rfl)
  | succ n ih =>
    intro i b hn hi hb
    have hw : wrap64 ((i : Int) + 1) = ((i + 1 : Nat) : Int) := by rw [w64 (by omega) (by omega)]; rfl
    rw [drop_rd (by omega), List.any_cons] at hb
    cases b with
    | true =>
      refine Ev.step (fun k => ?_) (ih (i + 1) true (by omega) (by omega) (by simpa using hb))
      simp only [pelicanlaw07_RoleLists.l1]
      rw [if_pos (by omega), if_pos trivial]
      by_cases h0 : i = 0
      · subst h0
        rw [if_neg (by simp), hw]
      · obtain ⟨j, rfl⟩ : ∃ j, i = j + 1 := ⟨i - 1, by omega⟩
        have hw2 : wrap64 (((j + 1 : Nat) : Int) - 1) = (j : Int) := by rw [w64 (by omega) (by omega)]; omega
        rw [if_pos (by omega), if_pos (by omega), hw2, if_pos (by omega), if_pos (by omega), if_neg (climbs_rd hc (by omega)), hw]
    | false =>
      refine Ev.step (fun k => ?_) (ih (i + 1) (rd W (i : Int) == x0) (by omega) (by omega) (by simpa using hb))
      simp only [pelicanlaw07_RoleLists.l1]
      rw [if_pos (by omega), if_neg (by decide), if_pos (by omega)]
      by_cases h0 : i = 0
      · subst h0
        rw [if_neg (by simp), hw]
      · obtain ⟨j, rfl⟩ : ∃ j, i = j + 1 := ⟨i - 1, by omega⟩
        have hw2 : wrap64 (((j + 1 : Nat) : Int) - 1) = (j : Int) := by rw [w64 (by omega) (by omega)]; omega
        rw [if_pos (by omega), hw2, if_pos (by omega), if_pos (by omega), if_neg (climbs_rd hc (by omega)), hw]
theorem scan0 (x0 x1 x2 : Int) (x7 : Bool) (A W : List Int) (r : Bool) (hA : A.length < 1000) (hW : W.length < 1000) (hc : climbs A = true)
    (hend : ∀ b, b = A.any (fun x => x == x1) → Ev (fun k => pelicanlaw07_RoleLists.l1 k x0 x1 x2 x7 A W b false 0) r) :
    ∀ (n i : Nat) (b : Bool), A.length - i = n → i ≤ A.length → (b || (A.drop i).any (fun x => x == x1)) = A.any (fun x => x == x1) → Ev (fun k => pelicanlaw07_RoleLists.l0 k x0 x1 x2 x7 A W b (i : Int)) r := by
  intro n
  induction n with
  | zero =>
    intro i b hn hi hb
    obtain rfl : i = A.length := by omega
    refine Ev.step (fun k => ?_) (hend b (by simpa using hb))
    simp only [pelicanlaw07_RoleLists.l0]
    rw [if_neg (by omega)]
  | succ n ih =>
    intro i b hn hi hb
    have hw : wrap64 ((i : Int) + 1) = ((i + 1 : Nat) : Int) := by rw [w64 (by omega) (by omega)]; rfl
    rw [drop_rd (by omega), List.any_cons] at hb
    cases b with
    | true =>
      refine Ev.step (fun k => ?_) (ih (i + 1) true (by omega) (by omega) (by simpa using hb))
      simp only [pelicanlaw07_RoleLists.l0]
      rw [if_pos (by omega), if_pos trivial]
      by_cases h0 : i = 0
      · subst h0
        rw [if_neg (by simp), hw]
      · obtain ⟨j, rfl⟩ : ∃ j, i = j + 1 := ⟨i - 1, by omega⟩
        have hw2 : wrap64 (((j + 1 : Nat) : Int) - 1) = (j : Int) := by rw [w64 (by omega) (by omega)]; omega
        rw [if_pos (by omega), if_pos (by omega), hw2, if_pos (by omega), if_pos (by omega), if_neg (climbs_rd hc (by omega)), hw]
    | false =>
      refine Ev.step (fun k => ?_) (ih (i + 1) (rd A (i : Int) == x1) (by omega) (by omega) (by simpa using hb))
      simp only [pelicanlaw07_RoleLists.l0]
      rw [if_pos (by omega), if_neg (by decide), if_pos (by omega)]
      by_cases h0 : i = 0
      · subst h0
        rw [if_neg (by simp), hw]
      · obtain ⟨j, rfl⟩ : ∃ j, i = j + 1 := ⟨i - 1, by omega⟩
        have hw2 : wrap64 (((j + 1 : Nat) : Int) - 1) = (j : Int) := by rw [w64 (by omega) (by omega)]; omega
        rw [if_pos (by omega), hw2, if_pos (by omega), if_pos (by omega), if_neg (climbs_rd hc (by omega)), hw]
theorem RoleLists : pelicanlaw07_RoleLists.PureS := by
  intro r c n _ _ _
  obtain ⟨k1, h1⟩ := awake_ev
  obtain ⟨k2, h2⟩ := all_ev r
  obtain ⟨k3, h3⟩ := who_ev c
  have hl0 : Ev (fun k => pelicanlaw07_RoleLists.l0 k r c n true (allL r) (whoL c) false 0) true := by
    refine scan0 r c n true (allL r) (whoL c) true (allL_len r) (whoL_len c) (allL_climbs r) ?_ _ 0 false rfl (by omega) (by simp)
    intro x10 h10
    refine scan1 r c n true (allL r) (whoL c) x10 true (allL_len r) (whoL_len c) (whoL_climbs c) ?_ _ 0 false rfl (by omega) (by simp)
    intro x12 k h12
    rw [allL_has] at h10
    rw [whoL_has] at h12
    have hall : ∀ i : Nat, i < (allL r).length → mayB r (rd (allL r) (i : Int)) = true := fun i hi => (List.mem_filter.1 (mem_rd hi)).2
    have hwho : ∀ i : Nat, i < (whoL c).length → mayB (rd (whoL c) (i : Int)) c = true := fun i hi => (List.mem_filter.1 (mem_rd hi)).2
    simp only [pelicanlaw07_RoleLists.l1]
    rw [if_neg (by omega), may_f, Option.bind_some, if_pos trivial, h10, h12, if_pos (by simp), if_pos (by simp)]
    by_cases hn : n < 0
    · rw [if_pos hn]
    · obtain ⟨i, rfl⟩ : ∃ i : Nat, n = (i : Int) := ⟨n.toNat, by omega⟩
      rw [if_neg hn]
      by_cases ha : (i : Int) ≥ ((allL r).length : Int)
      · rw [if_pos ha]
        by_cases hw : (i : Int) ≥ ((whoL c).length : Int)
        · rw [if_pos hw]
        · rw [if_neg hw, if_pos (by omega), if_pos (by omega), may_f, Option.bind_some, hwho i (by omega)]
      · rw [if_neg ha, if_pos (by omega), if_pos (by omega), may_f, Option.bind_some, if_pos (hall i (by omega))]
        by_cases hw : (i : Int) ≥ ((whoL c).length : Int)
        · rw [if_pos hw]
        · rw [if_neg hw, if_pos (by omega), may_f, Option.bind_some, hwho i (by omega)]
  obtain ⟨k4, h4⟩ := hl0
  refine ⟨k1 + k2 + k3 + k4, ?_⟩
  have e1 : pelicanlaw07_awake.f (k1 + k2 + k3 + k4) = some true := h1 _ (by omega)
  have e2 : role_All.f (k1 + k2 + k3 + k4) r = some (allL r) := h2 _ (by omega)
  have e3 : role_Who.f (k1 + k2 + k3 + k4) c = some (whoL c) := h3 _ (by omega)
  have e4 := h4 (k1 + k2 + k3 + k4) (by omega)
  unfold pelicanlaw07_RoleLists.f
  rw [e1, Option.bind_some, e2, Option.bind_some, e3, Option.bind_some]
  exact e4
end Go.Proofs.Ythkkeeekfjfffaa.Pure
