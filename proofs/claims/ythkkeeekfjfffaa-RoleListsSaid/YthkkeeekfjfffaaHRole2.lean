/- By hand: role.Read (an array that is cut and looked through). -/
import Derived.Test.YthkkeeekfjfffaaPx4
import Derived.Test.YthkkeeekfjfffaaHRole
import Derived.Test.YthkkeeekfjfffaaHPureKit
namespace Go.Proofs.Ythkkeeekfjfffaa.P
open Go.RowKit Go.Proofs.YthkkeeekfjfffaaW.PrintWords Go.Proofs.YthkkeeekfjfffaaW.PrintLast Go.Proofs.YthkkeeekfjfffaaW.PrintMore
set_option linter.unusedVariables false
set_option linter.unusedSimpArgs false
/-- Where a text lies in a row, from a place on, or -1. -/
def findFrom (s : ByteArray) : List ByteArray → Nat → Int
  | [], _ => -1
  | x :: l, i => if s.toList = x.toList then (i : Int) else findFrom s l (i + 1)
/-- The command of a name: its place among the names, or -1. -/
def readF (s : ByteArray) : Int := findFrom s nameL 0
def role_Read.f (a0 : ByteArray) : Option (Int) := some (readF a0)
theorem index_from (s : ByteArray) : ∀ (m d : List ByteArray) (l : List ByteArray) (k : Nat), l = d ++ m → l.length < 1000 → m.length < k → slices_Index_string_string.l0 k l s (l.length : Int) (d.length : Int) = some (findFrom s m d.length) := by
  intro m
  induction m with
  | nil =>
    intro d l k hl hs hk
    obtain ⟨k, rfl⟩ : ∃ j, k = j + 1 := ⟨k - 1, by simp at hk; omega⟩
    simp only [slices_Index_string_string.l0]
    have e : l.length = d.length := by rw [hl]; simp
    rw [if_neg (by omega)]
    rfl
  | cons x m ih =>
    intro d l k hl hs hk
    obtain ⟨k, rfl⟩ : ∃ j, k = j + 1 := ⟨k - 1, by simp at hk; omega⟩
    simp only [slices_Index_string_string.l0]
    have e : l.length = d.length + (m.length + 1) := by rw [hl]; simp
    have hx : rdOf ByteArray.empty l (d.length : Int) = x := by
      subst hl
      simp [rdOf]
    rw [if_pos (by omega), if_pos (by omega), if_pos (by omega), hx]
    by_cases hq : s.toList = x.toList
    · rw [if_pos hq]
      simp [findFrom, hq]
    · rw [if_neg hq]
      have h1 := ih (d ++ [x]) l k (by simp [hl]) hs (by simp at hk; omega)
      have h2 : ((d ++ [x]).length : Int) = (d.length : Int) + 1 := by simp
      rw [h2] at h1
      have h3 : wrap64 ((d.length : Int) + 1) = (d.length : Int) + 1 := w64 (by omega) (by omega)
      simp only [findFrom, if_neg hq]
      rw [h3]
      simpa using h1
theorem index_names (s : ByteArray) : ∃ k, slices_Index_string_string.f k nameL s = some (readF s) :=
  ⟨9, index_from s nameL [] nameL 9 rfl (by decide) (by decide)⟩
theorem nameV_eq : nameV = .agg #[.string ⟨#[103, 101, 116]⟩, .string ⟨#[104, 111, 108, 100]⟩, .string ⟨#[102, 114, 101, 101]⟩, .string ⟨#[110, 101, 120, 116]⟩, .string ⟨#[112, 108, 97, 110]⟩, .string ⟨#[114, 101, 100]⟩, .string ⟨#[99, 108, 101, 97, 114]⟩, .string ⟨#[99, 108, 111, 115, 101]⟩] := rfl
theorem findFrom_neg (s : ByteArray) : ∀ (l : List ByteArray) (i : Nat), ¬ 0 ≤ findFrom s l i → findFrom s l i = -1
  | [], _, _ => rfl
  | x :: l, i, h => by
    unfold findFrom at h ⊢
    split at h
    · omega
    · rename_i hq
      rw [if_neg hq]
      exact findFrom_neg s l _ h
theorem readF_neg (s : ByteArray) : ¬ 0 ≤ readF s → readF s = -1 := findFrom_neg s nameL 0
/-- A block's strings, read as a row. -/
theorem C_block {w : World} {g t : Nat} {fr : Nat × Nat} (l : List ByteArray) (hl : l.length ≤ 9223372036854775807) (hg : w.heap[g]? = some (.cells (l.map Value.string).toArray t fr)) : Kd.C Kd.string w (some ⟨g, 0, none⟩) l.length l := by
  refine ⟨rfl, hl, fun _ => ⟨_, rfl, fun j p hp => ⟨[.string p], rfl, rfl, fun i u hu => ?_⟩⟩⟩
  have hi : i = 0 := by
    have := (List.getElem?_eq_some_iff.1 hu).1
    simp at this
    omega
  subst hi
  simp at hu
  subst hu
  have hj : j * 1 + 0 = j := by omega
  show w.cell? ((⟨g, 0, none⟩ : Addr).add (j * 1 + 0)) = _
  rw [hj, add_plain, cell_of_row w g j _ t fr hg]
  simp [hp]
set_option maxHeartbeats 400000 in
set_option maxRecDepth 100000 in
theorem role_Read.calls (a0 : ByteArray) (r : Int) (w : World) (h : role_Read.f a0 = some r) :
    Calls Try.prog 22 #[.string a0] w fun e w' => e = .returned (.int .i64 r) ∧ Below w.heap.size w w' := by
  obtain rfl : readF a0 = r := Option.some.inj h
  obtain ⟨k, hk⟩ := index_names a0
  have hn := readF_neg a0
  clear h
  generalize readF a0 = q at hk hn ⊢
  go_enter Try.func22, Try.ntmps22
  go_wp2_with (first | (go_at_call 26; refine (names_any _).mono ?_; rintro e w' ⟨rfl, hb⟩; rw [nameV_eq]))
  · refine (slices_Index_string_string.calls k (some ⟨w'.heap.size, 0, none⟩) 8 nameL a0 q _ (C_block (t := 36) (fr := (0, 0)) nameL (by decide) ?_) (Nat.le_refl _) hk).mono ?_
    · exact heap_alloc_new _ _
    rintro e w2 ⟨rfl, hd⟩
    have hb2 := (below_alloc hb _).trans (hd.below.mono (below_alloc hb _).size)
    clear hk
    by_cases hq : 0 ≤ q
    · have hq1 : decide (q ≥ 0) = true := by simpa using hq
      go_wp2
      go_ret
      exact ⟨rfl, hb2⟩
    · have hq1 : decide (q ≥ 0) = false := by simpa using hq
      obtain rfl := hn (by omega)
      go_wp2
      go_ret
      exact ⟨rfl, hb2⟩
end Go.Proofs.Ythkkeeekfjfffaa.P
