/- What Use, Prove, Begin, Drop tell, in plain data. -/
import Derived.Test.YtmhphkclgdaajaaHSAwake
namespace Go.Proofs.Ytmhphkclgdaajaa.P
open Go.RowKit
set_option linter.unusedVariables false
set_option linter.unusedSimpArgs false
theorem mayS_iff (l : List Ses) : mayS l = true ↔ mayP l := decide_eq_true_iff
theorem mayP_erase {l : List Ses} (h : mayP l) (i : Nat) : mayP (l.eraseIdx i) := by
  obtain ⟨h1, h2, h3⟩ := h
  have hs := List.eraseIdx_sublist l i
  exact ⟨fun x hx => h1 x (hs.subset hx), (hs.map Ses.draw).nodup h2, by have := hs.length_le; omega⟩
theorem set_map_draw {l : List Ses} {i : Nat} {x x' : Ses} (hx : l[i]? = some x) (hd : x'.draw = x.draw) : (l.set i x').map Ses.draw = l.map Ses.draw := by
  apply List.ext_getElem?
  intro j
  rw [List.getElem?_map, List.getElem?_map]
  by_cases hj : j = i
  · subst hj
    have hlt : j < l.length := (List.getElem?_eq_some_iff.1 hx).1
    rw [List.getElem?_set_self hlt, hx]
    simp [hd]
  · rw [List.getElem?_set_ne (Ne.symm hj)]
theorem mayP_set {l : List Ses} (h : mayP l) {i : Nat} {x x' : Ses} (hx : l[i]? = some x) (hd : x'.draw = x.draw) (hb : mayB x' = true) : mayP (l.set i x') := by
  obtain ⟨h1, h2, h3⟩ := h
  refine ⟨fun y hy => ?_, by rw [set_map_draw hx hd]; exact h2, by rw [List.length_set]; exact h3⟩
  rcases List.mem_or_eq_of_mem_set hy with hy | rfl
  · exact h1 y hy
  · exact hb
/-- The place of a session, by draws alone. -/
theorem findS_draws : ∀ (l k : List Ses) (d : Int), l.map Ses.draw = k.map Ses.draw → findS l d = findS k d
  | [], [], d, _ => rfl
  | [], y :: k, d, h => by simp at h
  | x :: l, [], d, h => by simp at h
  | x :: l, y :: k, d, h => by
    simp only [List.map_cons, List.cons.injEq] at h
    have ih := findS_draws l k d h.2
    unfold findS at ih ⊢
    rw [idxS, idxS, ih, h.1]
theorem find_set {l : List Ses} {i : Nat} {x x' : Ses} (hx : l[i]? = some x) (hd : x'.draw = x.draw) (d : Int) : findS (l.set i x') d = findS l d := findS_draws _ _ d (set_map_draw hx hd)
theorem find_erase {l : List Ses} (h : mayP l) {d : Int} {i : Nat} (hf : findS l d = i) : findS (l.eraseIdx i) d = -1 := by
  rw [findS_none_iff]
  intro y hy e
  rcases findS_spec l d with ⟨h1, _⟩ | ⟨j, x, h1, h2, h3, h4⟩
  · omega
  · have : j = i := by omega
    subst this
    have hnd := h.2.1
    rw [List.eraseIdx_eq_take_drop_succ] at hy
    have hsp : l = l.take j ++ x :: l.drop (j + 1) := by
      obtain ⟨hlt, hx⟩ := List.getElem?_eq_some_iff.1 h2
      rw [← hx, ← List.drop_eq_getElem_cons hlt, List.take_append_drop]
    rw [hsp, List.map_append, List.map_cons, List.nodup_append] at hnd
    rcases List.mem_append.1 hy with hy | hy
    · exact h4 y hy e
    · have hn2 := (List.nodup_cons.1 hnd.2.1).1
      exact hn2 (by rw [h3, ← e]; exact List.mem_map_of_mem hy)
/-- All that Use tells. -/
theorem useS_spec (l : List Ses) (d count idle now : Int) : ∃ r e, useS l d count idle now = (r, e) ∧
    ((e = 1 ∧ r = l ∧ (mayS l = false ∨ timesB idle now = false)) ∨
    (mayS l = true ∧ timesB idle now = true ∧ ((e = 5 ∧ r = l ∧ (findS l d = -1 ∨ ∃ (i : Nat) (x : Ses), findS l d = i ∧ l[i]? = some x ∧ x.isOpen = false)) ∨
      ∃ (i : Nat) (x : Ses), findS l d = i ∧ l[i]? = some x ∧ x.isOpen = true ∧ ((e = 9 ∧ r = l.eraseIdx i ∧ lateB x idle now = true) ∨
        (lateB x idle now = false ∧ ((e = 8 ∧ r = l ∧ count ≤ x.count) ∨ (x.count < count ∧ count = 18446744073709551615 ∧ e = 0 ∧ r = l.eraseIdx i) ∨
          (x.count < count ∧ count ≠ 18446744073709551615 ∧ e = 0 ∧ r = l.set i { { x with count := count } with last := now })))))))  := by
  cases hm : mayS l with
  | false => exact ⟨l, 1, useS_no (oldS_1 (.inl hm)) (by decide), .inl ⟨rfl, rfl, .inl rfl⟩⟩
  | true =>
  cases ht : timesB idle now with
  | false => exact ⟨l, 1, useS_no (oldS_1 (.inr ht)) (by decide), .inl ⟨rfl, rfl, .inr rfl⟩⟩
  | true =>
  have hge := findS_ge l d
  by_cases hn : findS l d = -1
  · exact ⟨l, 5, useS_no (oldS_5 hm ht hn) (by decide), .inr ⟨rfl, rfl, .inl ⟨rfl, rfl, .inl hn⟩⟩⟩
  obtain ⟨i, hi⟩ : ∃ i : Nat, findS l d = i := ⟨(findS l d).toNat, by omega⟩
  have hlt : i < l.length := by omega
  obtain ⟨x, hx⟩ : ∃ x, l[i]? = some x := ⟨_, List.getElem?_eq_getElem hlt⟩
  cases hp : x.isOpen with
  | false => exact ⟨l, 5, useS_no (oldS_5' hm ht hi hx hp) (by decide), .inr ⟨rfl, rfl, .inl ⟨rfl, rfl, .inr ⟨i, x, hi, hx, hp⟩⟩⟩⟩
  | true =>
  cases hl : lateB x idle now with
  | true => exact ⟨l.eraseIdx i, 9, useS_no (oldS_9 hm ht hi hx hp hl) (by decide), .inr ⟨rfl, rfl, .inr ⟨i, x, hi, hx, hp, .inl ⟨rfl, rfl, hl⟩⟩⟩⟩
  | false =>
  have hu := useS_ok (count := count) (oldS_0 hm ht hi hx hp hl) hx
  by_cases hc : count ≤ x.count
  · exact ⟨l, 8, by rw [hu, if_pos hc], .inr ⟨rfl, rfl, .inr ⟨i, x, hi, hx, hp, .inr ⟨hl, .inl ⟨rfl, rfl, hc⟩⟩⟩⟩⟩
  · by_cases hmx : count = 18446744073709551615
    · exact ⟨l.eraseIdx i, 0, by rw [hu, if_neg hc, if_pos hmx], .inr ⟨rfl, rfl, .inr ⟨i, x, hi, hx, hp, .inr ⟨hl, .inr (.inl ⟨by omega, hmx, rfl, rfl⟩)⟩⟩⟩⟩
    · exact ⟨_, 0, by rw [hu, if_neg hc, if_neg hmx], .inr ⟨rfl, rfl, .inr ⟨i, x, hi, hx, hp, .inr ⟨hl, .inr (.inr ⟨by omega, hmx, rfl, rfl⟩)⟩⟩⟩⟩
theorem useS_len {l : List Ses} {d count idle now : Int} {r : List Ses} {e : Int} (h : useS l d count idle now = (r, e)) : r.length ≤ l.length := by
  obtain ⟨r', e', h', hc⟩ := useS_spec l d count idle now
  rw [h] at h'
  cases h'
  rcases hc with ⟨_, rfl, _⟩ | ⟨_, _, ⟨_, rfl, _⟩ | ⟨i, x, _, _, _, ⟨_, rfl, _⟩ | ⟨_, ⟨_, rfl, _⟩ | ⟨_, _, _, rfl⟩ | ⟨_, _, _, rfl⟩⟩⟩⟩
  · exact Nat.le_refl _
  · exact Nat.le_refl _
  · exact (List.eraseIdx_sublist _ _).length_le
  · exact Nat.le_refl _
  · exact (List.eraseIdx_sublist _ _).length_le
  · rw [List.length_set]; exact Nat.le_refl _
end Go.Proofs.Ytmhphkclgdaajaa.P
