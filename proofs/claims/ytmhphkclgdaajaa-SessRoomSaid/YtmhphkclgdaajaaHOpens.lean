/- What comes in, kind by kind: a datum that can be read has cells of its kind. -/
import Derived.Test.YtmhphkclgdaajaaWWords
import Derived.ChangeArms
import Derived.Deep.Slices
import Derived.Test.YtmhphkclgdaajaaHPureKit
namespace Go.Proofs.Ytmhphkclgdaajaa.P
open Go.RowKit Go.Proofs.YtmhphkclgdaajaaW.PrintWords
set_option linter.unusedVariables false
set_option linter.unusedSimpArgs false
/-- At so much fuel: whatever reads as a datum of type t has cells of kind d, of something that is G. -/
def OpensAt {α : Type} (P : Program) (n : Nat) (t : TypeId) (d : Kd α) (G : α → Prop) : Prop :=
  ∀ (H : Type) (enc : TypeId × Value → H) (w : World) (base : Nat) (spare : Nat → Bool) (held : Bool) (cs : List Value) (x : DataW H × List MemPlace),
    DataW.trod enc P w base spare held n t cs = some x → ∃ a, d.K w a cs ∧ G a
def Opens {α : Type} (P : Program) (t : TypeId) (d : Kd α) (G : α → Prop) : Prop := ∀ n, OpensAt P n t d G
section
variable {P : Program} {t e : TypeId}
theorem opens_int {k : IntKind} (ht : P.underlying t = some (.int k)) : Opens P t (Kd.int k) (fun n => (Lit.int k n).wf = true) := by
  intro n H enc w base spare held cs x h
  obtain ⟨m, rfl, rfl, hw⟩ := DataW.trod_int ht h
  exact ⟨m, rfl, hw⟩
theorem opens_bool (ht : P.underlying t = some .bool) : Opens P t Kd.bool (fun _ => True) := by
  intro n H enc w base spare held cs x h
  obtain ⟨m, rfl, rfl⟩ := DataW.trod_bool ht h
  exact ⟨m, rfl, trivial⟩
theorem opens_string (ht : P.underlying t = some .string) : Opens P t Kd.string (fun s => s.size ≤ maxLen) := by
  intro n H enc w base spare held cs x h
  obtain ⟨m, rfl, rfl, hm⟩ := DataW.trod_string ht h
  exact ⟨m, rfl, hm⟩
theorem add_add_' (a : Addr) (p i : Nat) : (a.add p).add i = a.add (p + i) := by
  unfold Addr.add
  by_cases hp : p = 0
  · subst hp; simp
  · by_cases hi : i = 0
    · subst hi; simp
    · simp [hp, hi, Nat.add_assoc]
theorem cells_some {w : World} {base : Nat} {a : Addr} {n : Nat} {cs : List Value} (h : w.cells? base a n = some cs) : cs.length = n ∧ ∀ i u, cs[i]? = some u → w.cell? (a.add i) = some u := by
  unfold World.cells? at h
  split at h
  · have hl := mapM_some_length h
    simp at hl
    refine ⟨hl, fun i u hi => ?_⟩
    have hlt : i < n := by
      have := (List.getElem?_eq_some_iff.1 hi).1
      omega
    have := mapM_some_get h i i (by simp [hlt])
    rw [this]
    exact hi
  · cases h
theorem opens_slice {α : Type} {d : Kd α} {G : α → Prop} (n : Nat) (ht : P.underlying t = some (.slice e)) (hc : P.cellsOf e = d.sz) (he : OpensAt P n e d G) :
    OpensAt P (n + 1) t (Kd.slice e d) (fun l => l.length ≤ maxLen ∧ ∀ x ∈ l, G x) := by
  intro H enc w base spare held cs x h
  rcases DataW.trod_slice ht h with ⟨rfl, rfl⟩ | ⟨a, len, cap, elems, rest, m, hm, rfl, rfl, hb, hl, hcap, hlen, hel, _, _⟩
  · exact ⟨[], ⟨none, 0, rfl, Nat.le_refl _, ⟨rfl, by simp, fun h => absurd h (by simp)⟩⟩, by simp [maxLen], by simp⟩
  · obtain rfl : n = m := by omega
    have key : ∀ i, i < len → ∃ p c, w.cells? base (a.add (i * P.cellsOf e)) (P.cellsOf e) = some c ∧ d.K w p c ∧ G p := by
      intro i hi
      have h1 := hel i hi
      rw [List.getElem?_eq_getElem (by omega)] at h1
      obtain ⟨c, hc1, hc2⟩ := Option.bind_eq_some_iff.1 h1
      obtain ⟨p, hp, hg⟩ := he H enc w base spare held c _ hc2
      exact ⟨p, c, hc1, hp, hg⟩
    have keyl : ∀ m, m ≤ len → ∃ l : List α, l.length = m ∧ (∀ x ∈ l, G x) ∧ ∀ j p, l[j]? = some p → ∃ c, w.cells? base (a.add (j * P.cellsOf e)) (P.cellsOf e) = some c ∧ d.K w p c := by
      intro m
      induction m with
      | zero => exact fun _ => ⟨[], rfl, by simp, fun j p hp => by simp at hp⟩
      | succ m ih =>
        intro hm
        obtain ⟨l, h1, h2, h3⟩ := ih (by omega)
        obtain ⟨p, c, hc1, hp, hg⟩ := key m (by omega)
        refine ⟨l ++ [p], by simp [h1], fun x hx => ?_, fun j q hq => ?_⟩
        · rcases List.mem_append.1 hx with hx | hx
          · exact h2 x hx
          · rw [List.mem_singleton.1 hx]; exact hg
        · rcases Nat.lt_or_ge j l.length with hj | hj
          · rw [List.getElem?_append_left hj] at hq
            exact h3 j q hq
          · rw [List.getElem?_append_right hj] at hq
            have hj0 : j - l.length = 0 := by
              have := (List.getElem?_eq_some_iff.1 hq).1
              simp at this
              omega
            rw [hj0] at hq
            simp at hq
            subst hq
            obtain rfl : j = m := by omega
            exact ⟨c, hc1, hp⟩
    obtain ⟨l, h1, h2, h3⟩ := keyl len (Nat.le_refl _)
    refine ⟨l, ⟨some a, cap, by rw [h1], by omega, ⟨rfl, by unfold maxLen at hcap; omega, fun _ => ⟨a, rfl, fun j p hp => ?_⟩⟩⟩, by omega, h2⟩
    obtain ⟨c, hc1, hk⟩ := h3 j p hp
    obtain ⟨hc2, hc3⟩ := cells_some hc1
    refine ⟨c, by rw [hc2, hc], hk, fun i u hu => ?_⟩
    have := hc3 i u hu
    rw [add_add_', hc] at this
    exact this
theorem opens_slice' {α : Type} {d : Kd α} {G : α → Prop} (ht : P.underlying t = some (.slice e)) (hc : P.cellsOf e = d.sz) (he : Opens P e d G) :
    Opens P t (Kd.slice e d) (fun l => l.length ≤ maxLen ∧ ∀ x ∈ l, G x) := by
  intro n
  cases n with
  | zero => intro H enc w base spare held cs x h; simp [DataW.trod] at h
  | succ n => exact opens_slice n ht hc (he n)
theorem pair_K {α β : Type} {a : Kd α} {b : Kd β} {w : World} {cs : List Value} {x : α} {y : β} (n : Nat) (h0 : a.K w x (cs.take n)) (h1 : b.K w y (cs.drop n)) : (Kd.pair a b).K w (x, y) cs :=
  ⟨_, _, (List.take_append_drop n cs).symm, h0, h1⟩
/-- A struct's field. -/
theorem opens_field {α : Type} {d : Kd α} {G : α → Prop} {H : Type} {enc : TypeId × Value → H} {w : World} {base : Nat} {spare : Nat → Bool} {held : Bool} {cs : List Value} {n i : Nat} {f : Field} {fs : Array Field} {xs : List (DataW H × List MemPlace)}
    (hxl : xs.length = fs.size) (hf : ∀ (i : Nat) (f : Field), fs[i]? = some f → DataW.trod enc P w base spare held n f.type ((cs.drop f.offset).take (P.cellsOf f.type)) = xs[i]?)
    (hi : fs[i]? = some f) (he : OpensAt P n f.type d G) : ∃ a, d.K w a ((cs.drop f.offset).take (P.cellsOf f.type)) ∧ G a := by
  have h := hf i f hi
  have hlt : i < xs.length := by
    rw [hxl]
    exact (Array.getElem?_eq_some_iff.1 hi).1
  rw [List.getElem?_eq_getElem hlt] at h
  exact he H enc w base spare held _ _ h
/-- An argument. -/
theorem opens_arg {α : Type} {d : Kd α} {G : α → Prop} (h : Opens P t d G) {H : Type} {enc : TypeId × Value → H} {w : World} {base : Nat} {spare : Nat → Bool} {held : Bool} {v : Value} {x : DataW H} {ps : List MemPlace}
    (ht : DataW.Trod enc P w base spare held t v x ps) : ∃ a, d.K w a v.cells.toList ∧ G a := by
  obtain ⟨n, hn⟩ := ht
  exact h n H enc w base spare held _ _ hn
end
end Go.Proofs.Ytmhphkclgdaajaa.P
