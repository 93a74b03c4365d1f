/- Plain facts about entries: what may be, its bytes, what bytes seem to be. -/
import Derived.Test.YtphfejboahcnhaaPx3
import Derived.Test.YtphfejboahcnhaaHEntryPut
import Derived.Test.YtphfejboahcnhaaHNumP
namespace Go.Proofs.Ytphfejboahcnhaa.P
open Go.RowKit Go.Proofs.YtphfejboahcnhaaW.PrintWords Go.Proofs.YtphfejboahcnhaaW.PrintLast
set_option linter.unusedVariables false
set_option linter.unusedSimpArgs false
def mayE (x : S25) : Bool := inB x.f0 4 && inB x.f1 1073741824 && inB x.f2 1073741824 && inB x.f3 255 && inB x.f6 255 && inB x.f7 65535 && inB x.f8 12
def entsE (x : S25) : List S48 := entNums x.f0 x.f1 x.f2 x.f3 x.f4 x.f5 x.f6 x.f7 x.f8
def bytesE (x : S25) : List Int := catL (entsE x)
def zeroE : S25 := ⟨0, 0, 0, 0, 0, 0, 0, 0, 0⟩
def ksE : List Int := [1, 4, 4, 1, 8, 8, 1, 2, 1]
abbrev T9 := Int × Int × Int × Int × Int × Int × Int × Int × Int × Bool
def tupE (x : S25) (b : Bool) : T9 := (x.f0, x.f1, x.f2, x.f3, x.f4, x.f5, x.f6, x.f7, x.f8, b)
/-- The entry of bytes, or none. -/
def ofVs (v : List Int) : S25 := ⟨rd v 0, rd v 1, rd v 2, rd v 3, rd v 4, rd v 5, rd v 6, rd v 7, rd v 8⟩
def getE (b : List Int) : S25 × Bool := if b.length = 30 ∧ mayE (ofVs (cutV b ksE)) = true then (ofVs (cutV b ksE), true) else (zeroE, false)
theorem may_f (x : S25) : entry_May.f x.f0 x.f1 x.f2 x.f3 x.f4 x.f5 x.f6 x.f7 x.f8 = some (mayE x) := rfl
theorem mayE_iff (x : S25) : mayE x = true ↔ (0 ≤ x.f0 ∧ x.f0 ≤ 4) ∧ (0 ≤ x.f1 ∧ x.f1 ≤ 1073741824) ∧ (0 ≤ x.f2 ∧ x.f2 ≤ 1073741824) ∧ (0 ≤ x.f3 ∧ x.f3 ≤ 255) ∧ (0 ≤ x.f6 ∧ x.f6 ≤ 255) ∧ (0 ≤ x.f7 ∧ x.f7 ≤ 65535) ∧ (0 ≤ x.f8 ∧ x.f8 ≤ 12) := by
  unfold mayE
  simp only [Bool.and_eq_true, inB_iff, and_assoc]
/-- The numbers Sess and Count are uint64. -/
def uE (x : S25) : Prop := (0 ≤ x.f4 ∧ x.f4 < 18446744073709551616) ∧ 0 ≤ x.f5 ∧ x.f5 < 18446744073709551616
theorem ents_ok {x : S25} (h : mayE x = true) (hu : uE x) : (∀ y ∈ entsE x, okN y) ∧ allFit (entsE x) := by
  have hm := (mayE_iff x).1 h
  obtain ⟨hu1, hu2⟩ := hu
  constructor
  · intro y hy
    simp only [entsE, entNums, List.mem_cons, List.not_mem_nil, or_false] at hy
    rcases hy with rfl | rfl | rfl | rfl | rfl | rfl | rfl | rfl | rfl
    all_goals (unfold okN; dsimp only; omega)
  · intro y hy
    simp only [entsE, entNums, List.mem_cons, List.not_mem_nil, or_false] at hy
    have p1 : (256 : Int) ^ (1 : Int).toNat = 256 := by decide
    have p2 : (256 : Int) ^ (2 : Int).toNat = 65536 := by decide
    have p4 : (256 : Int) ^ (4 : Int).toNat = 4294967296 := by decide
    have p8 : (256 : Int) ^ (8 : Int).toNat = 18446744073709551616 := by decide
    rcases hy with rfl | rfl | rfl | rfl | rfl | rfl | rfl | rfl | rfl
    all_goals (unfold fits; dsimp only; simp only [p1, p2, p4, p8]; omega)
theorem put_ev {x : S25} (hu : uE x) : Ev (fun k => entry_Put.f k x.f0 x.f1 x.f2 x.f3 x.f4 x.f5 x.f6 x.f7 x.f8) (if mayE x = true then (bytesE x, true) else ([], false)) := by
  unfold entry_Put.f
  rw [may_f]
  simp only [Option.bind_some]
  by_cases h : mayE x = true
  · simp only [h, if_true]
    obtain ⟨h1, h2⟩ := ents_ok h hu
    have := cat_ev (entsE x) h1
    rw [if_pos ⟨by simp [entsE, entNums], h2⟩] at this
    exact this
  · simp only [h, if_false]
    exact Ev.const (by simp)
theorem bytes_len (x : S25) : (bytesE x).length = 30 := by
  simp [bytesE, catL, entsE, entNums, be_length]
theorem bytes_byte (x : S25) : ∀ y ∈ bytesE x, 0 ≤ y ∧ y < 256 := catL_byte _
theorem okS_30 (b : List Int) : okS ksE (b.length : Int) = true ↔ b.length = 30 := by
  constructor
  · intro h
    have := (okS_all _ _ h).2
    simp [ksE] at this
    omega
  · intro h
    rw [h]
    decide
theorem cut_vals (b : List Int) (hb : ∀ x ∈ b, 0 ≤ x ∧ x < 256) (hl : b.length = 30) : (cutV b ksE).length = 9 ∧ (entsE (ofVs (cutV b ksE))) = zipN (cutV b ksE) ksE ∧ allFit (entsE (ofVs (cutV b ksE))) ∧ bytesE (ofVs (cutV b ksE)) = b ∧ ∀ x ∈ entsE (ofVs (cutV b ksE)), okN x := by
  have h9 : (cutV b ksE).length = 9 := by rw [cutV_length]; rfl
  have hz : (entsE (ofVs (cutV b ksE))) = zipN (cutV b ksE) ksE := by
    generalize cutV b ksE = v at h9
    match v, h9 with
    | [v0, v1, v2, v3, v4, v5, v6, v7, v8], _ => rfl
  obtain ⟨z1, z2, z3⟩ := zip_fits ksE b hb ((okS_30 b).2 hl)
  refine ⟨h9, hz, ?_, ?_, ?_⟩
  · rw [hz]; exact z1
  · unfold bytesE; rw [hz]; exact z2
  · rw [hz]; exact z3
theorem vals_small {b : List Int} (hb : ∀ x ∈ b, 0 ≤ x ∧ x < 256) (hl : b.length = 30) : uE (ofVs (cutV b ksE)) ∧
    (wrap64 (rd (cutV b ksE) 0) = rd (cutV b ksE) 0 ∧ wrap64 (rd (cutV b ksE) 1) = rd (cutV b ksE) 1 ∧ wrap64 (rd (cutV b ksE) 2) = rd (cutV b ksE) 2 ∧ wrap64 (rd (cutV b ksE) 3) = rd (cutV b ksE) 3 ∧ wrap64 (rd (cutV b ksE) 6) = rd (cutV b ksE) 6 ∧ wrap64 (rd (cutV b ksE) 7) = rd (cutV b ksE) 7 ∧ wrap64 (rd (cutV b ksE) 8) = rd (cutV b ksE) 8) := by
  obtain ⟨_, _, hf, _, ho⟩ := cut_vals b hb hl
  simp only [allFit, entsE, entNums, ofVs, List.forall_mem_cons] at hf ho
  have p1 : (256 : Int) ^ (1 : Int).toNat = 256 := by decide
  have p2 : (256 : Int) ^ (2 : Int).toNat = 65536 := by decide
  have p4 : (256 : Int) ^ (4 : Int).toNat = 4294967296 := by decide
  obtain ⟨f0, f1, f2, f3, f4, f5, f6, f7, f8, _⟩ := hf
  obtain ⟨o0, o1, o2, o3, o4, o5, o6, o7, o8, _⟩ := ho
  unfold fits at f0 f1 f2 f3 f6 f7 f8
  unfold okN at o0 o1 o2 o3 o4 o5 o6 o7 o8
  simp only [p1, p2, p4] at f0 f1 f2 f3 f6 f7 f8
  refine ⟨⟨o4.1, o5.1⟩, w64 ?_ ?_, w64 ?_ ?_, w64 ?_ ?_, w64 ?_ ?_, w64 ?_ ?_, w64 ?_ ?_, w64 ?_ ?_⟩
  all_goals dsimp only at *
  all_goals omega
theorem get_ev (b : List Int) (hb : ∀ x ∈ b, 0 ≤ x ∧ x < 256) (hbl : b.length ≤ 140737488351232) : Ev (fun k => entry_Get.f k b) (tupE (getE b).1 (getE b).2) := by
  unfold entry_Get.f entry_sizes.f
  simp only [Option.bind_some]
  have hc := cut_ev b hb (by omega) ksE
  by_cases hl : b.length = 30
  · rw [if_pos ⟨by decide, (okS_30 b).2 hl⟩] at hc
    refine Ev.bind hc (Ev.const ?_)
    obtain ⟨h9, _⟩ := cut_vals b hb hl
    obtain ⟨hu, w0, w1, w2, w3, w6, w7, w8⟩ := vals_small hb hl
    dsimp only
    rw [if_pos rfl, h9, w0, w1, w2, w3, w6, w7, w8]
    rw [if_pos (by decide), if_pos (by decide), if_pos (by decide), if_pos (by decide), if_pos (by decide), if_pos (by decide), if_pos (by decide), if_pos (by decide), if_pos (by decide)]
    have hm := may_f (ofVs (cutV b ksE))
    simp only [ofVs] at hm
    rw [hm, Option.bind_some]
    by_cases hmm : mayE (ofVs (cutV b ksE)) = true
    · have hg : getE b = (ofVs (cutV b ksE), true) := by unfold getE; rw [if_pos ⟨hl, hmm⟩]
      rw [hg]
      simp only [ofVs] at hmm
      rw [if_pos hmm]
      rfl
    · have hg : getE b = (zeroE, false) := by unfold getE; rw [if_neg (fun h => hmm h.2)]
      rw [hg]
      simp only [ofVs] at hmm
      rw [if_neg hmm]
      rfl
  · rw [if_neg (fun h => hl ((okS_30 b).1 h.2))] at hc
    refine Ev.bind hc (Ev.const ?_)
    have hg : getE b = (zeroE, false) := by unfold getE; rw [if_neg (fun h => hl h.1)]
    rw [hg]
    rfl
/-- What is put is got. -/
theorem get_put {x : S25} (h : mayE x = true) (hu : uE x) : getE (bytesE x) = (x, true) := by
  obtain ⟨h1, h2⟩ := ents_ok h hu
  have hc := (cut_of_cat (entsE x) h1 h2).2
  have hk : (entsE x).map (·.f1) = ksE := rfl
  rw [hk] at hc
  have e : ofVs (cutV (bytesE x) ksE) = x := by
    unfold bytesE
    rw [hc]
    cases x
    rfl
  unfold getE
  rw [e, if_pos ⟨bytes_len x, h⟩]
/-- What is got is put as the same bytes. -/
theorem put_get {b : List Int} (hb : ∀ x ∈ b, 0 ≤ x ∧ x < 256) (h : (getE b).2 = true) : mayE (getE b).1 = true ∧ uE (getE b).1 ∧ bytesE (getE b).1 = b ∧ b.length = 30 := by
  unfold getE at h ⊢
  split at h
  · rename_i hc
    rw [if_pos hc]
    exact ⟨hc.2, (vals_small hb hc.1).1, (cut_vals b hb hc.1).2.2.2.1, hc.1⟩
  · simp at h
theorem getE_no {b : List Int} (h : (getE b).2 = false) : getE b = (zeroE, false) := by
  unfold getE at h ⊢
  split at h
  · simp at h
  · rename_i hc; rw [if_neg hc]
theorem uE_get {b : List Int} (hb : ∀ x ∈ b, 0 ≤ x ∧ x < 256) : uE (getE b).1 := by
  cases h : (getE b).2
  · rw [getE_no h]; exact ⟨⟨by decide, by decide⟩, by decide, by decide⟩
  · exact (put_get hb h).2.1
end Go.Proofs.Ytphfejboahcnhaa.P
