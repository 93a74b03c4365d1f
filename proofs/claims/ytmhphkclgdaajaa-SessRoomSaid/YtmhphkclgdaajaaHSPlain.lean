/- Sessions in plain data: places, whether they may be. -/
import Derived.Test.YtmhphkclgdaajaaHFind
namespace Go.Proofs.Ytmhphkclgdaajaa.P
open Go.RowKit
set_option linter.unusedVariables false
set_option linter.unusedSimpArgs false
theorem idxS_spec (p : Ses → Bool) : ∀ l : List Ses, (idxS p l = -1 ∧ ∀ x ∈ l, p x = false) ∨ ∃ (i : Nat) (x : Ses), idxS p l = i ∧ l[i]? = some x ∧ p x = true ∧ ∀ y ∈ l.take i, p y = false
  | [] => .inl ⟨rfl, by simp⟩
  | x :: l => by
    by_cases h : p x = true
    · exact .inr ⟨0, x, by rw [idxS, if_pos h]; rfl, rfl, h, by simp⟩
    · have hf : p x = false := by simpa using h
      rcases idxS_spec p l with ⟨h1, h2⟩ | ⟨i, y, h1, h2, h3, h4⟩
      · refine .inl ⟨by rw [idxS, if_neg h, if_pos h1], fun y hy => ?_⟩
        rcases List.mem_cons.1 hy with rfl | hy
        · exact hf
        · exact h2 y hy
      · refine .inr ⟨i + 1, y, by rw [idxS, if_neg h, if_neg (by omega), h1]; rfl, h2, h3, fun z hz => ?_⟩
        rw [List.take_succ_cons] at hz
        rcases List.mem_cons.1 hz with rfl | hz
        · exact hf
        · exact h4 z hz
theorem findS_spec (l : List Ses) (d : Int) : (findS l d = -1 ∧ ∀ x ∈ l, x.draw ≠ d) ∨ ∃ (i : Nat) (x : Ses), findS l d = i ∧ l[i]? = some x ∧ x.draw = d ∧ ∀ y ∈ l.take i, y.draw ≠ d := by
  rcases idxS_spec (fun x => x.draw == d) l with ⟨h1, h2⟩ | ⟨i, x, h1, h2, h3, h4⟩
  · exact .inl ⟨h1, fun x hx => by simpa using h2 x hx⟩
  · exact .inr ⟨i, x, h1, h2, by simpa using h3, fun y hy => by simpa using h4 y hy⟩
theorem findS_ge (l : List Ses) (d : Int) : -1 ≤ findS l d ∧ findS l d < l.length := idxS_ge _ l
theorem findS_none_iff (l : List Ses) (d : Int) : findS l d = -1 ↔ ∀ x ∈ l, x.draw ≠ d := by
  rcases findS_spec l d with ⟨h1, h2⟩ | ⟨i, x, h1, h2, h3, h4⟩
  · exact ⟨fun _ => h2, fun _ => h1⟩
  · refine ⟨fun h => by omega, fun h => ?_⟩
    exact absurd h3 (h x (List.mem_of_getElem? h2))
/-- May sessions be? -/
def mayP (l : List Ses) : Prop := (∀ x ∈ l, mayB x = true) ∧ (l.map Ses.draw).Nodup ∧ l.length ≤ 4
instance (l : List Ses) : Decidable (mayP l) := by unfold mayP; infer_instance
def mayS (l : List Ses) : Bool := decide (mayP l)
/-- The first n of them may be, each behind those ahead of it. -/
def okTo (l : List Ses) (n : Nat) : Prop := (∀ x ∈ l.take n, mayB x = true) ∧ ((l.take n).map Ses.draw).Nodup
theorem okTo_zero (l : List Ses) : okTo l 0 := by constructor <;> simp
theorem okTo_succ {l : List Ses} {n : Nat} {x : Ses} (hx : l[n]? = some x) : okTo l (n + 1) ↔ (okTo l n ∧ mayB x = true ∧ findS (l.take n) x.draw = -1) := by
  unfold okTo
  rw [List.take_add_one, hx, Option.toList_some, findS_none_iff]
  constructor
  · rintro ⟨h1, h2⟩
    rw [List.map_append, List.nodup_append] at h2
    refine ⟨⟨fun y hy => h1 y (by simp [hy]), h2.1⟩, h1 x (by simp), fun y hy e => ?_⟩
    exact h2.2.2 y.draw (List.mem_map_of_mem hy) x.draw (by simp) e
  · rintro ⟨⟨h1, h2⟩, h3, h4⟩
    refine ⟨fun y hy => ?_, ?_⟩
    · rcases List.mem_append.1 hy with hy | hy
      · exact h1 y hy
      · rw [List.mem_singleton.1 hy]; exact h3
    · rw [List.map_append, List.nodup_append]
      refine ⟨h2, by simp, ?_⟩
      intro a ha b hb e
      obtain ⟨y, hy, rfl⟩ := List.mem_map.1 ha
      simp at hb
      subst hb
      exact h4 y hy e
theorem okTo_all (l : List Ses) : mayP l ↔ okTo l l.length ∧ l.length ≤ 4 := by
  unfold okTo mayP
  rw [List.take_length, and_assoc]
theorem okTo_not {l : List Ses} {n : Nat} {x : Ses} (hx : l[n]? = some x) (h : ¬ (mayB x = true ∧ findS (l.take n) x.draw = -1)) : ¬ mayP l := by
  intro hm
  have hn : n < l.length := (List.getElem?_eq_some_iff.1 hx).1
  obtain ⟨h1, h2, _⟩ := hm
  have : okTo l (n + 1) := by
    refine ⟨fun y hy => h1 y (List.mem_of_mem_take hy), ?_⟩
    rw [List.map_take]
    exact h2.take
  exact h ((okTo_succ hx).1 this).2
/-- In a list that may be, a session is found where it stands. -/
theorem find_self {l : List Ses} {n : Nat} {x : Ses} (hx : l[n]? = some x) (h : findS (l.take n) x.draw = -1) : findS l x.draw = n := by
  have hn : n < l.length := (List.getElem?_eq_some_iff.1 hx).1
  rw [findS_none_iff] at h
  exact idxS_at _ hx (fun y hy => by simpa using h y hy) (by simp)
theorem find_other {l : List Ses} {n : Nat} {x : Ses} (hx : l[n]? = some x) (h : findS (l.take n) x.draw ≠ -1) : findS l x.draw ≠ n := by
  intro e
  rcases findS_spec l x.draw with ⟨h1, h2⟩ | ⟨i, y, h1, h2, h3, h4⟩
  · omega
  · have : i = n := by omega
    subst this
    exact h ((findS_none_iff _ _).2 h4)
end Go.Proofs.Ytmhphkclgdaajaa.P
