/- What the functions of store tell, in plain data. -/
import Derived.Test.YtlldfihhdbbicaaPx3
import Derived.Test.YtlldfihhdbbicaaHStore
namespace Go.Proofs.Ytlldfihhdbbicaa.P
open Go.RowKit Go.Proofs.YtlldfihhdbbicaaW.PrintWords Go.Proofs.YtlldfihhdbbicaaW.PrintLast Go.Proofs.YtlldfihhdbbicaaW.PrintMore
set_option linter.unusedVariables false
set_option linter.unusedSimpArgs false
/-- A store that may be. -/
def mayP (a : Int) (l : List Int) (c : Int) : Prop := 0 ≤ a ∧ a ≤ 16384 ∧ (l.length : Int) ≤ a ∧ 0 ≤ c ∧ c ≤ (l.length : Int)
instance (a : Int) (l : List Int) (c : Int) : Decidable (mayP a l c) := by unfold mayP; infer_instance
theorem may_f (a : Int) (l : List Int) (c : Int) : store_May.f a l c = some (decide (mayP a l c)) := by
  unfold store_May.f
  by_cases h : mayP a l c
  · obtain ⟨h1, h2, h3, h4, h5⟩ := h
    rw [decide_eq_true (show mayP a l c from ⟨h1, h2, h3, h4, h5⟩), if_pos h1, if_pos h2, if_pos h3, if_pos h4, decide_eq_true h5]
  · rw [decide_eq_false h]
    by_cases h1 : a ≥ 0
    · rw [if_pos h1]
      by_cases h2 : a ≤ 16384
      · rw [if_pos h2]
        by_cases h3 : (l.length : Int) ≤ a
        · rw [if_pos h3]
          by_cases h4 : c ≥ 0
          · rw [if_pos h4, decide_eq_false (fun h5 => h ⟨h1, h2, h3, h4, h5⟩)]
          · rw [if_neg h4]
        · rw [if_neg h3]
      · rw [if_neg h2]
    · rw [if_neg h1]
theorem clone_f {l : List Int} (h : l.length < 140737488355328) : slices_Clone_byte_byte.f l = some l := by
  unfold slices_Clone_byte_byte.f
  rw [if_pos h]
theorem own_f {a c : Int} {l : List Int} (h : l.length < 140737488355328) : store_own.f a l c = some (a, l, c) := own_of_clone (clone_f h)
theorem cut_f (a : Int) (l : List Int) (c n : Int) (h : l.length < 140737488355328) : store_Cut.f a l c n = some (if mayP a l c ∧ 0 ≤ n ∧ n ≤ (l.length : Int) then (a, l.take n.toNat, n, 0) else (a, l, c, 1)) := by
  unfold store_Cut.f
  rw [may_f, Option.bind_some, clone_f h, Option.bind_some]
  congr 1
  by_cases hm : mayP a l c
  · simp [hm]
  · simp [hm]
theorem sync_f (a : Int) (l : List Int) (c : Int) (h : l.length < 140737488355328) : store_Sync.f a l c = some (if mayP a l c then (a, l, (l.length : Int), 0) else (a, l, c, 1)) := by
  unfold store_Sync.f
  rw [may_f, Option.bind_some, clone_f h, Option.bind_some]
  congr 1
  by_cases hm : mayP a l c
  · simp [hm]
  · simp [hm]
/-- How much a crash keeps. -/
def kept (l : List Int) (c x : Int) : Int := c + mx 0 (mn x ((l.length : Int) - c))
theorem kept_in {a c x : Int} {l : List Int} (h : mayP a l c) : c ≤ kept l c x ∧ kept l c x ≤ (l.length : Int) := by
  obtain ⟨h1, h2, h3, h4, h5⟩ := h
  unfold kept mx mn
  split <;> split at * <;> omega
theorem crash_f (a : Int) (l : List Int) (c x : Int) (h : mayP a l c) : store_Crash.f a l c x = some (a, l.take (kept l c x).toNat, kept l c x) := by
  have hk := kept_in (x := x) h
  obtain ⟨h1, h2, h3, h4, h5⟩ := id h
  unfold store_Crash.f
  have e1 : wrap64 ((l.length : Int) - c) = (l.length : Int) - c := w64 (by omega) (by omega)
  have e2 : wrap64 (c + mx 0 (mn x ((l.length : Int) - c))) = kept l c x := w64 (by unfold kept at hk; omega) (by unfold kept at hk; omega)
  rw [may_f, decide_eq_true h, Option.bind_some, if_pos rfl, e1, e2, cut_f a l c _ (by omega), if_pos ⟨h, by omega, hk.2⟩, Option.bind_some]
theorem crash_no (a : Int) (l : List Int) (c x : Int) (h : ¬ mayP a l c) (hl : l.length < 140737488355328) : store_Crash.f a l c x = some (a, l, c) := by
  unfold store_Crash.f
  rw [may_f, decide_eq_false h, Option.bind_some, if_neg (by decide), own_f hl, Option.bind_some]
theorem same_refl (a : Int) (l : List Int) (c : Int) : store_Same.f a l c a l c = some true := by
  unfold store_Same.f bytes_Equal.f
  simp
theorem left_f (a : Int) (l : List Int) (c : Int) : store_Left.f a l c = some (if mayP a l c then a - (l.length : Int) else 0) := by
  unfold store_Left.f
  rw [may_f, Option.bind_some]
  by_cases h : mayP a l c
  · obtain ⟨h1, h2, h3, h4, h5⟩ := id h
    rw [decide_eq_true h, if_pos rfl, if_pos h, w64 (by omega) (by omega)]
  · rw [decide_eq_false h, if_neg (by decide), if_neg h]
theorem awake_f : pelicanlaw09_awake.f = some true := by decide +kernel
theorem take_may {a c x : Int} {l : List Int} (h : mayP a l c) : mayP a (l.take (kept l c x).toNat) (kept l c x) ∧ (l.take (kept l c x).toNat).length = (kept l c x).toNat := by
  have hk := kept_in (x := x) h
  obtain ⟨h1, h2, h3, h4, h5⟩ := h
  have hl : (l.take (kept l c x).toNat).length = (kept l c x).toNat := by rw [List.length_take]; omega
  exact ⟨⟨h1, h2, by omega, by omega, by omega⟩, hl⟩
end Go.Proofs.Ytlldfihhdbbicaa.P
