/- Plain facts about num.Cat and num.Cut (as in chapter 03). -/
import Derived.Test.YtphfejboahcnhaaPx2
import Derived.Test.YtphfejboahcnhaaPx2
import Derived.Test.YtphfejboahcnhaaHPureKit
namespace Go.Proofs.Ytphfejboahcnhaa.P
open Go.RowKit Go.Proofs.YtphfejboahcnhaaW.PrintWords Go.Proofs.YtphfejboahcnhaaW.PrintLast
set_option linter.unusedVariables false
set_option linter.unusedSimpArgs false
theorem put_f {n k : Int} (h : 0 ≤ n ∧ n < 18446744073709551616) : num_Put.f n k = some (if fits n k then (be k.toNat n, true) else ([], false)) := by
  unfold num_Put.f
  rw [if_pos h]
theorem put_fits {n k : Int} (h : 0 ≤ n ∧ n < 18446744073709551616) (hf : fits n k) : num_Put.f n k = some (be k.toNat n, true) := by
  rw [put_f h, if_pos hf]
theorem put_not {n k : Int} (h : 0 ≤ n ∧ n < 18446744073709551616) (hf : ¬ fits n k) : num_Put.f n k = some ([], false) := by
  rw [put_f h, if_neg hf]
theorem get_f {l : List Int} (h : ∀ x ∈ l, 0 ≤ x ∧ x < 256) (a k : Int) : num_Get.f l a k = some (if 1 ≤ k ∧ k ≤ 8 ∧ 0 ≤ a ∧ a + k ≤ l.length then (val ((l.drop a.toNat).take k.toNat), a + k) else (0, -1)) := by
  unfold num_Get.f
  rw [if_pos (bytesB_iff.2 h)]
theorem fits_8 {n : Int} (h : 0 ≤ n ∧ n < 18446744073709551616) : fits n 8 := ⟨by omega, by omega, h.2⟩
theorem fits_more {n k : Int} (h0 : 0 ≤ n) (h : fits n k) (h8 : k < 8) : fits n (k + 1) := by
  obtain ⟨h1, h2, h3⟩ := h
  refine ⟨by omega, by omega, ?_⟩
  rw [show (k + 1).toNat = k.toNat + 1 by omega, Int.pow_succ]
  omega
theorem val_cons (x : Int) (l : List Int) : val (x :: l) = x * 256 ^ l.length + val l := by
  induction l using snoc_ind with
  | h0 => simp [val]
  | hs l c ih =>
    rw [show x :: (l ++ [c]) = (x :: l) ++ [c] from rfl, val_snoc, ih, val_snoc, List.length_append, List.length_singleton, Int.pow_succ, Int.add_mul, Int.mul_assoc]
    omega
theorem be_cons (k : Nat) : ∀ n : Int, be (k + 1) n = (n / 256 ^ k % 256) :: be k n := by
  induction k with
  | zero => intro n; simp [be]
  | succ k ih =>
    intro n
    rw [be, ih, be]
    have e : n / 256 ^ (k + 1) = n / 256 / 256 ^ k := by
      rw [Int.pow_succ, Int.mul_comm, Int.ediv_ediv_of_nonneg (by omega)]
    rw [e]
    rfl
theorem val_be_of {n k : Int} (h0 : 0 ≤ n) (h : fits n k) : val (be k.toNat n) = n := val_be_fits h0 h.2.2
def okN (x : S48) : Prop := (0 ≤ x.f0 ∧ x.f0 < 18446744073709551616) ∧ -9223372036854775808 ≤ x.f1 ∧ x.f1 < 9223372036854775808
def catL (l : List S48) : List Int := l.flatMap fun x => be x.f1.toNat x.f0
def allFit (l : List S48) : Prop := ∀ x ∈ l, fits x.f0 x.f1
instance (l : List S48) : Decidable (allFit l) := by unfold allFit; infer_instance
theorem rd_mid (pre : List S48) (x : S48) (suf : List S48) : rd_T48 (pre ++ x :: suf) (pre.length : Int) = x := by
  simp [rd_T48, List.getD_eq_getElem?_getD]
theorem rdi_mid (pre : List Int) (x : Int) (suf : List Int) : rd (pre ++ x :: suf) (pre.length : Int) = x := by
  simp [rd, List.getD_eq_getElem?_getD]
theorem allFit_cons (x : S48) (l : List S48) : allFit (x :: l) ↔ fits x.f0 x.f1 ∧ allFit l := by simp [allFit]
theorem catL_cons (x : S48) (l : List S48) : catL (x :: l) = be x.f1.toNat x.f0 ++ catL l := rfl
theorem catL_append (l k : List S48) : catL (l ++ k) = catL l ++ catL k := by simp [catL]
theorem catL_byte (l : List S48) : ∀ y ∈ catL l, 0 ≤ y ∧ y < 256 := by
  intro y hy
  simp only [catL, List.mem_flatMap] at hy
  obtain ⟨x, _, hx⟩ := hy
  exact be_byte _ _ y hx
theorem cat_loop (l : List S48) (hl : l.length ≤ 40) (hok : ∀ x ∈ l, okN x) : ∀ (suf pre : List S48) (acc : List Int), l = pre ++ suf → acc.length ≤ 8 * pre.length →
    Ev (fun k => num_Cat.l0 k acc l (l.length : Int) (pre.length : Int)) (if allFit suf then (acc ++ catL suf, true) else ([], false)) := by
  intro suf
  induction suf with
  | nil =>
    intro pre acc h ha
    refine Ev.step (f := fun k => some (acc, true)) (fun k => ?_) ⟨0, fun k _ => ?_⟩
    · simp only [num_Cat.l0]
      rw [if_neg (by rw [h]; simp)]
    · simp [allFit, catL]
  | cons x suf ih =>
    intro pre acc h ha
    have hx : okN x := hok x (by rw [h]; simp)
    have hlen : l.length = pre.length + suf.length + 1 := by rw [h]; simp; omega
    have hi : (pre.length : Int) < (l.length : Int) := by omega
    have hrd : rd_T48 l (pre.length : Int) = x := by rw [h]; exact rd_mid pre x suf
    by_cases hf : fits x.f0 x.f1
    · have h8 := hf.2.1
      have ih' := ih (pre ++ [x]) (acc ++ be x.f1.toNat x.f0) (by rw [h]; simp) (by simp [be_length]; omega)
      have e : (if allFit (x :: suf) then (acc ++ catL (x :: suf), true) else ([], false)) = (if allFit suf then ((acc ++ be x.f1.toNat x.f0) ++ catL suf, true) else ([], false)) := by
        simp [allFit_cons, hf, catL_cons]
      rw [e]
      refine Ev.step (fun k => ?_) ih'
      simp only [num_Cat.l0]
      rw [if_pos hi, if_pos (by omega), if_pos hi, hrd, put_fits hx.1 hf]
      simp only [Option.bind_some, if_true]
      rw [if_pos (by rw [be_length]; omega), w64 (by omega) (by omega)]
      simp
    · refine Ev.step (f := fun k => some ([], false)) (fun k => ?_) ⟨0, fun k _ => ?_⟩
      · simp only [num_Cat.l0]
        rw [if_pos hi, if_pos (by omega), if_pos hi, hrd, put_not hx.1 hf]
        simp
      · simp [allFit_cons, hf]
theorem cat_ev (l : List S48) (hok : ∀ x ∈ l, okN x) : Ev (fun k => num_Cat.f k l) (if l.length ≤ 40 ∧ allFit l then (catL l, true) else ([], false)) := by
  by_cases hl : l.length ≤ 40
  · have h := cat_loop l hl hok l [] [] rfl (by simp)
    refine Ev.congr (f := fun k => num_Cat.l0 k [] l (l.length : Int) 0) (fun k => ?_) ?_
    · unfold num_Cat.f
      rw [if_neg (by omega)]
    · simpa [hl] using h
  · refine Ev.congr (f := fun _ => some ([], false)) (fun k => ?_) (Ev.const (by simp [hl]))
    unfold num_Cat.f
    rw [if_pos (by omega)]

/-- Do these sizes cut r bytes? -/
def okS : List Int → Int → Bool
  | [], r => decide (r = 0)
  | k :: ks, r => decide (1 ≤ k) && decide (k ≤ 8) && decide (k ≤ r) && okS ks (r - k)
def cutV : List Int → List Int → List Int
  | _, [] => []
  | b, k :: ks => val (b.take k.toNat) :: cutV (b.drop k.toNat) ks
theorem cutV_length (ks : List Int) : ∀ b, (cutV b ks).length = ks.length := by
  induction ks with
  | nil => intro b; rfl
  | cons k ks ih => intro b; simp [cutV, ih]
theorem cut_loop (b : List Int) (hb : ∀ x ∈ b, 0 ≤ x ∧ x < 256) (hbl : b.length ≤ 9223372036854775807) (s : List Int) (hs : s.length ≤ 40) : ∀ (suf pre acc : List Int) (at_ : Nat), s = pre ++ suf → acc.length = pre.length → at_ ≤ b.length →
    Ev (fun k => num_Cut.l0 k b acc (at_ : Int) s (s.length : Int) (pre.length : Int)) (if okS suf (b.length - at_) = true then (acc ++ cutV (b.drop at_) suf, true) else ([], false)) := by
  intro suf
  induction suf with
  | nil =>
    intro pre acc at_ h ha hat
    have hn : ¬ (pre.length : Int) < (s.length : Int) := by rw [h]; simp
    by_cases he : (at_ : Int) = (b.length : Int)
    · refine Ev.step (f := fun k => some (acc, true)) (fun k => ?_) ⟨0, fun k _ => ?_⟩
      · simp only [num_Cut.l0]
        rw [if_neg hn, if_pos he]
      · have : okS [] ((b.length : Int) - at_) = true := by simp [okS]; omega
        simp [this, cutV]
    · refine Ev.step (f := fun k => some ([], false)) (fun k => ?_) ⟨0, fun k _ => ?_⟩
      · simp only [num_Cut.l0]
        rw [if_neg hn, if_neg he]
      · have : ¬ okS [] ((b.length : Int) - at_) = true := by simp [okS]; omega
        simp [this]
  | cons x suf ih =>
    intro pre acc at_ h ha hat
    have hlen : s.length = pre.length + suf.length + 1 := by rw [h]; simp; omega
    have hi : (pre.length : Int) < (s.length : Int) := by omega
    have hrd : rd s (pre.length : Int) = x := by rw [h]; exact rdi_mid pre x suf
    by_cases hf : 1 ≤ x ∧ x ≤ 8 ∧ 0 ≤ (at_ : Int) ∧ (at_ : Int) + x ≤ b.length
    · obtain ⟨f1, f2, f3, f4⟩ := hf
      have ih' := ih (pre ++ [x]) (acc ++ [val ((b.drop at_).take x.toNat)]) (at_ + x.toNat) (by rw [h]; simp) (by simp [ha]) (by omega)
      have e0 : ((b.length : Int) - ((at_ + x.toNat : Nat) : Int)) = (b.length : Int) - at_ - x := by omega
      rw [e0] at ih'
      have e : (if okS (x :: suf) ((b.length : Int) - at_) = true then (acc ++ cutV (b.drop at_) (x :: suf), true) else ([], false)) = (if okS suf ((b.length : Int) - at_ - x) = true then ((acc ++ [val ((b.drop at_).take x.toNat)]) ++ cutV (b.drop (at_ + x.toNat)) suf, true) else ([], false)) := by
        have q : x ≤ (b.length : Int) - at_ := by omega
        simp [okS, f1, f2, q, cutV, List.drop_drop]
      rw [e]
      refine Ev.step (fun k => ?_) ih'
      simp only [num_Cut.l0]
      rw [if_pos hi, if_pos (by omega), if_pos hi, hrd, get_f hb, if_pos ⟨f1, f2, f3, f4⟩]
      simp only [Option.bind_some]
      rw [if_neg (by omega), if_pos (by omega), w64 (by omega) (by omega)]
      have e2 : (at_ : Int) + x = ((at_ + x.toNat : Nat) : Int) := by omega
      simp [e2]
    · refine Ev.step (f := fun k => some ([], false)) (fun k => ?_) ⟨0, fun k _ => ?_⟩
      · simp only [num_Cut.l0]
        rw [if_pos hi, if_pos (by omega), if_pos hi, hrd, get_f hb, if_neg hf]
        simp
      · have : ¬ okS (x :: suf) ((b.length : Int) - at_) = true := by
          simp only [okS, Bool.and_eq_true, decide_eq_true_eq]
          rintro ⟨⟨⟨h1, h2⟩, h3⟩, _⟩
          exact hf ⟨h1, h2, by omega, by omega⟩
        simp [this]
theorem cut_ev (b : List Int) (hb : ∀ x ∈ b, 0 ≤ x ∧ x < 256) (hbl : b.length ≤ 9223372036854775807) (s : List Int) :
    Ev (fun k => num_Cut.f k b s) (if s.length ≤ 40 ∧ okS s b.length = true then (cutV b s, true) else ([], false)) := by
  by_cases hl : s.length ≤ 40
  · have h := cut_loop b hb hbl s hl s [] [] 0 rfl rfl (by omega)
    refine Ev.congr (f := fun k => num_Cut.l0 k b [] 0 s (s.length : Int) 0) (fun k => ?_) ?_
    · unfold num_Cut.f
      rw [if_neg (by omega)]
    · simpa [hl] using h
  · refine Ev.congr (f := fun _ => some ([], false)) (fun k => ?_) (Ev.const (by simp [hl]))
    unfold num_Cut.f
    rw [if_pos (by omega)]
theorem okS_all (s : List Int) : ∀ r, okS s r = true → (∀ k ∈ s, 1 ≤ k ∧ k ≤ 8) ∧ s.sum = r := by
  induction s with
  | nil => intro r h; simp [okS] at h; simp [h]
  | cons k s ih =>
    intro r h
    simp only [okS, Bool.and_eq_true, decide_eq_true_eq] at h
    obtain ⟨⟨⟨h1, h2⟩, h3⟩, h4⟩ := h
    obtain ⟨i1, i2⟩ := ih _ h4
    refine ⟨fun x hx => ?_, by simp; omega⟩
    rcases List.mem_cons.1 hx with rfl | hx
    · exact ⟨h1, h2⟩
    · exact i1 x hx
theorem sum_nonneg (s : List Int) (h : ∀ k ∈ s, 1 ≤ k ∧ k ≤ 8) : 0 ≤ s.sum := by
  induction s with
  | nil => simp
  | cons k s ih =>
    have h1 := h k (by simp)
    have h2 := ih fun x hx => h x (by simp [hx])
    simp
    omega
theorem okS_of (s : List Int) : ∀ r, (∀ k ∈ s, 1 ≤ k ∧ k ≤ 8) → s.sum = r → okS s r = true := by
  induction s with
  | nil => intro r _ h; simp at h; simp [okS, h]
  | cons k s ih =>
    intro r h1 h2
    have hk := h1 k (by simp)
    have hs : ∀ x ∈ s, 1 ≤ x ∧ x ≤ 8 := fun x hx => h1 x (by simp [hx])
    have hn := sum_nonneg s hs
    simp at h2
    simp only [okS, Bool.and_eq_true, decide_eq_true_eq]
    exact ⟨⟨⟨hk.1, hk.2⟩, by omega⟩, ih _ hs (by omega)⟩
def zipN (vs s : List Int) : List S48 := List.zipWith (fun n k => (⟨n, k⟩ : S48)) vs s
theorem zip_fits (s : List Int) : ∀ b : List Int, (∀ x ∈ b, 0 ≤ x ∧ x < 256) → okS s b.length = true → allFit (zipN (cutV b s) s) ∧ catL (zipN (cutV b s) s) = b ∧ ∀ x ∈ zipN (cutV b s) s, okN x := by
  induction s with
  | nil =>
    intro b hb h
    simp [okS] at h
    subst h
    exact ⟨by simp [zipN, cutV, allFit], rfl, by simp [zipN, cutV]⟩
  | cons k s ih =>
    intro b hb h
    simp only [okS, Bool.and_eq_true, decide_eq_true_eq] at h
    obtain ⟨⟨⟨h1, h2⟩, h3⟩, h4⟩ := h
    have hbd : ∀ x ∈ b.drop k.toNat, 0 ≤ x ∧ x < 256 := fun x hx => hb x (List.mem_of_mem_drop hx)
    have e : ((b.drop k.toNat).length : Int) = (b.length : Int) - k := by rw [List.length_drop]; omega
    obtain ⟨i1, i2, i3⟩ := ih (b.drop k.toNat) hbd (by rw [e]; exact h4)
    have hbt : ∀ x ∈ b.take k.toNat, 0 ≤ x ∧ x < 256 := fun x hx => hb x (List.mem_of_mem_take hx)
    have hv := val_bound _ hbt
    have hl : (b.take k.toNat).length = k.toNat := by rw [List.length_take]; omega
    have hbe := be_val _ hbt
    rw [hl] at hv hbe
    have hz : zipN (cutV b (k :: s)) (k :: s) = ⟨val (b.take k.toNat), k⟩ :: zipN (cutV (b.drop k.toNat) s) s := rfl
    have h9 : (256 : Int) ^ k.toNat ≤ 18446744073709551616 := by
      have hall : ∀ m, m < 9 → (256 : Int) ^ m ≤ 18446744073709551616 := by decide
      exact hall _ (by omega)
    rw [hz]
    refine ⟨(allFit_cons _ _).2 ⟨⟨h1, h2, hv.2⟩, i1⟩, ?_, fun x hx => ?_⟩
    · rw [catL_cons, i2]
      show be k.toNat (val (b.take k.toNat)) ++ _ = _
      rw [hbe, List.take_append_drop]
    · rcases List.mem_cons.1 hx with rfl | hx
      · exact ⟨⟨hv.1, by show val _ < _; omega⟩, by show _ ≤ k; omega, by show k < _; omega⟩
      · exact i3 x hx
theorem zipN_length (vs s : List Int) (h : vs.length = s.length) : (zipN vs s).length = s.length := by
  simp [zipN, h]
theorem rdi (l : List Int) (i : Nat) (h : i < l.length) : rd l (i : Int) = l[i] := by
  unfold rd
  rw [Int.toNat_natCast, List.getD_eq_getElem?_getD, List.getElem?_eq_getElem h]
  rfl
theorem okS_len (s : List Int) (r : Int) (h : okS s r = true) : r = s.sum := (okS_all s r h).2.symm
theorem cut_of_cat (l : List S48) : (∀ x ∈ l, okN x) → allFit l → okS (l.map (·.f1)) ((catL l).length : Int) = true ∧ cutV (catL l) (l.map (·.f1)) = l.map (·.f0) := by
  induction l with
  | nil => intro _ _; exact ⟨rfl, rfl⟩
  | cons x l ih =>
    intro h hf
    have hx := h x (by simp)
    obtain ⟨f1, f2⟩ := (allFit_cons _ _).1 hf
    obtain ⟨i1, i2⟩ := ih (fun y hy => h y (by simp [hy])) f2
    have g1 := f1.1
    have g2 := f1.2.1
    have hl : ((catL (x :: l)).length : Int) = x.f1 + ((catL l).length : Int) := by
      rw [catL_cons, List.length_append, be_length]
      omega
    constructor
    · simp only [List.map_cons, okS, Bool.and_eq_true, decide_eq_true_eq]
      refine ⟨⟨⟨g1, g2⟩, by omega⟩, ?_⟩
      rw [hl, show x.f1 + ((catL l).length : Int) - x.f1 = ((catL l).length : Int) by omega]
      exact i1
    · simp only [List.map_cons, cutV]
      rw [catL_cons, List.take_left' (be_length _ _), List.drop_left' (be_length _ _), i2, val_be_of hx.1.1 f1]
end Go.Proofs.Ytphfejboahcnhaa.P
