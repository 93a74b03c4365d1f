/- Plain facts about the references of numbers (as in chapter 03). -/
import Derived.Test.YtphfejboahcnhaaPx6
import Derived.Test.YtphfejboahcnhaaPx7
import Derived.Test.YtphfejboahcnhaaPx6
import Derived.Test.YtphfejboahcnhaaPx7
import Derived.Test.YtphfejboahcnhaaHNumP
namespace Go.Proofs.Ytphfejboahcnhaa.P
open Go.RowKit Go.Proofs.YtphfejboahcnhaaW.PrintWords Go.Proofs.YtphfejboahcnhaaW.PrintLast
set_option linter.unusedVariables false
set_option linter.unusedSimpArgs false
theorem wrap_u64_id {x : Int} (h0 : 0 ≤ x) (h1 : x < 18446744073709551616) : IntKind.u64.wrap x = x := by
  rw [IntKind.wrap_u64]
  omega
theorem ref_put_loop (n0 : Int) : ∀ (m : Nat) (n : Int) (xs : List Int), m ≤ xs.length → m ≤ 8 → 0 ≤ n → n < 18446744073709551616 →
    Ev (fun k => pelicanref03_Put.l0 k n xs ((m : Int) - 1)) (if n / 256 ^ m = 0 then (be m n ++ xs.drop m, true) else ([], false)) := by
  intro m
  induction m with
  | zero =>
    intro n xs _ _ h0 h1
    by_cases hz : n = 0
    · refine Ev.step (f := fun k => some (xs, true)) (fun k => ?_) ⟨0, fun k _ => ?_⟩
      · simp only [pelicanref03_Put.l0]
        rw [if_neg (by omega), if_pos hz]
      · simp [hz, be]
    · refine Ev.step (f := fun k => some ([], false)) (fun k => ?_) ⟨0, fun k _ => ?_⟩
      · simp only [pelicanref03_Put.l0]
        rw [if_neg (by omega), if_neg hz]
      · simp [hz]
  | succ m ih =>
    intro n xs hm h8 h0 h1
    have ih' := ih (n / 256) (xs.set m (n % 256)) (by simp; omega) (by omega) (by omega) (by omega)
    have e1 : n / 256 / 256 ^ m = n / 256 ^ (m + 1) := by
      rw [Int.pow_succ, Int.mul_comm, Int.ediv_ediv_of_nonneg (by omega)]
    have e2 : be m (n / 256) ++ (xs.set m (n % 256)).drop m = be (m + 1) n ++ xs.drop (m + 1) := by
      rw [be, List.append_assoc]
      congr 1
      rw [List.drop_set, if_neg (by omega), Nat.sub_self, List.drop_eq_getElem_cons (by omega)]
      rfl
    rw [e1, e2] at ih'
    refine Ev.step (fun k => ?_) ih'
    simp only [pelicanref03_Put.l0]
    have e3 : ((m + 1 : Nat) : Int) - 1 = (m : Int) := by omega
    rw [e3, if_pos (by omega), if_pos (by omega), if_pos (by omega), w64 (by omega) (by omega)]
    have e4 : Int.tdiv n 256 = n / 256 := Int.tdiv_eq_ediv_of_nonneg h0
    have e5 : Int.tmod n 256 = n % 256 := Int.tmod_eq_emod_of_nonneg h0
    rw [e4, e5, wrap_u64_id (by omega) (by omega), Int.toNat_natCast, Int.emod_emod]
theorem ref_put_ev (n s : Int) (h : 0 ≤ n ∧ n < 18446744073709551616) (hs : -9223372036854775808 ≤ s ∧ s < 9223372036854775808) :
    Ev (fun k => pelicanref03_Put.f k n s) (if fits n s then (be s.toNat n, true) else ([], false)) := by
  by_cases h1 : s < 1
  · refine Ev.congr (f := fun k => pelicanref03_Put.j0 k n s true) (fun k => by unfold pelicanref03_Put.f; rw [if_pos h1]) ?_
    refine Ev.step (f := fun k => some ([], false)) (fun k => by simp [pelicanref03_Put.j0]) (Ev.const ?_)
    rw [if_neg (by rintro ⟨h, _⟩; omega)]
  · refine Ev.congr (f := fun k => pelicanref03_Put.j0 k n s (decide (s > 8))) (fun k => by unfold pelicanref03_Put.f; rw [if_neg h1]) ?_
    by_cases h8 : s > 8
    · refine Ev.step (f := fun k => some ([], false)) (fun k => by simp [pelicanref03_Put.j0, h8]) (Ev.const ?_)
      rw [if_neg (by rintro ⟨_, h, _⟩; omega)]
    · have hl := ref_put_loop n s.toNat n (List.replicate s.toNat 0) (by simp) (by omega) h.1 h.2
      have e0 : (s.toNat : Int) - 1 = s - 1 := by omega
      rw [List.drop_of_length_le (by simp), List.append_nil, e0] at hl
      refine Ev.step (f := fun k => pelicanref03_Put.l0 k n (List.replicate s.toNat 0) (s - 1)) (fun k => ?_) ?_
      · simp only [pelicanref03_Put.j0]
        rw [if_neg (by simp; omega), if_pos (by omega), if_pos (by omega), w64 (by omega) (by omega)]
      · have e : (n / 256 ^ s.toNat = 0) ↔ fits n s := by
          constructor
          · intro hz
            refine ⟨by omega, by omega, ?_⟩
            have hp : (0 : Int) < 256 ^ s.toNat := Int.pow_pos (by omega)
            have := Int.lt_ediv_add_one_mul_self n hp
            rw [hz] at this
            omega
          · exact fun hf => Int.ediv_eq_zero_of_lt h.1 hf.2.2
        simpa only [e] using hl
theorem ref_get_loop (b : List Int) (hb : ∀ x ∈ b, 0 ≤ x ∧ x < 256) (hbl : b.length ≤ 9223372036854775807) (a k : Nat) (hk : k ≤ 8) (hak : a + k ≤ b.length) : ∀ (d i : Nat), i + d = k →
    Ev (fun f => pelicanref03_Get.l0 f b (a : Int) (k : Int) (val (((b.drop a).take k).take i)) ((a + i : Nat) : Int)) (val ((b.drop a).take k), (a : Int) + k) := by
  intro d
  induction d with
  | zero =>
    intro i hi
    obtain rfl : i = k := by omega
    refine Ev.step (f := fun _ => some (val ((b.drop a).take i), (a : Int) + i)) (fun f => ?_) (Ev.const rfl)
    simp only [pelicanref03_Get.l0]
    rw [w64 (by omega) (by omega), if_neg (by omega), List.take_take, Nat.min_self]
  | succ d ih =>
    intro i hi
    have ih' := ih (i + 1) (by omega)
    refine Ev.step (fun f => ?_) ih'
    simp only [pelicanref03_Get.l0]
    have hsl : ((b.drop a).take k).length = k := by rw [List.length_take, List.length_drop]; omega
    have hil : i < ((b.drop a).take k).length := by omega
    have hv := val_bound (((b.drop a).take k).take i) fun x hx => hb x (List.mem_of_mem_drop (List.mem_of_mem_take (List.mem_of_mem_take hx)))
    have hpw : (256 : Int) ^ (((b.drop a).take k).take i).length ≤ 72057594037927936 := by
      have hle : (((b.drop a).take k).take i).length < 8 := by rw [List.length_take]; omega
      have hall : ∀ m, m < 8 → (256 : Int) ^ m ≤ 72057594037927936 := by decide
      exact hall _ hle
    have hrd : rd b ((a + i : Nat) : Int) = ((b.drop a).take k)[i] := by
      unfold rd
      rw [Int.toNat_natCast, List.getElem_take, List.getElem_drop, List.getD_eq_getElem?_getD, List.getElem?_eq_getElem (by omega)]
      rfl
    have hc : 0 ≤ rd b ((a + i : Nat) : Int) ∧ rd b ((a + i : Nat) : Int) < 256 := by
      rw [hrd]
      exact hb _ (List.mem_of_mem_drop (List.mem_of_mem_take (List.getElem_mem hil)))
    rw [w64 (by omega) (by omega), if_pos (by omega), if_pos (by omega), if_pos (by omega), w64 (by omega) (by omega)]
    rw [wrap_u64_id (show 0 ≤ 256 * _ by omega) (by omega), wrap_u64_id hc.1 (by omega), wrap_u64_id (by omega) (by omega), val_take_succ _ i hil, hrd]
    congr 1
    · omega
theorem ref_get_ev (b : List Int) (hb : ∀ x ∈ b, 0 ≤ x ∧ x < 256) (hbl : b.length ≤ 9223372036854775807) (a k : Int) (ha : -9223372036854775808 ≤ a ∧ a < 9223372036854775808) :
    Ev (fun f => pelicanref03_Get.f f b a k) (if 1 ≤ k ∧ k ≤ 8 ∧ 0 ≤ a ∧ a + k ≤ b.length then (val ((b.drop a.toNat).take k.toNat), a + k) else (0, -1)) := by
  by_cases hg : 1 ≤ k ∧ k ≤ 8 ∧ 0 ≤ a ∧ a + k ≤ b.length
  · rw [if_pos hg]
    obtain ⟨g1, g2, g3, g4⟩ := hg
    obtain ⟨p, rfl⟩ := Int.eq_ofNat_of_zero_le g3
    obtain ⟨q, rfl⟩ := Int.eq_ofNat_of_zero_le (show 0 ≤ k by omega)
    refine Ev.congr (f := fun f => pelicanref03_Get.j0 f b p q false) (fun f => ?_) ?_
    · unfold pelicanref03_Get.f
      rw [if_neg (by omega), if_neg (by omega), if_neg (by omega), if_neg (by omega), w64 (by omega) (by omega)]
      congr 1
      simp
      omega
    · refine Ev.step (f := fun f => pelicanref03_Get.l0 f b p q 0 p) (fun f => by simp [pelicanref03_Get.j0]) ?_
      exact ref_get_loop b hb hbl p q (by omega) (by omega) q 0 (by omega)
  · rw [if_neg hg]
    have hj : Ev (fun f => pelicanref03_Get.j0 f b a k true) (0, -1) := Ev.step (f := fun f => some (0, -1)) (fun f => by simp [pelicanref03_Get.j0]) (Ev.const rfl)
    refine Ev.congr (f := fun f => pelicanref03_Get.j0 f b a k true) (fun f => ?_) hj
    unfold pelicanref03_Get.f
    by_cases g1 : k < 1
    · rw [if_pos g1]
    · rw [if_neg g1]
      by_cases g2 : k > 8
      · rw [if_pos g2]
      · rw [if_neg g2]
        by_cases g3 : a < 0
        · rw [if_pos g3]
        · rw [if_neg g3]
          by_cases g4 : a > b.length
          · rw [if_pos g4]
          · rw [if_neg g4, w64 (by omega) (by omega)]
            have : (b.length : Int) - a < k := by omega
            simp [this]
theorem ref_cat_loop (l : List S48) (hl : l.length ≤ 40) (hok : ∀ x ∈ l, okN x) : ∀ (suf pre : List S48) (acc : List Int), l = pre ++ suf → acc.length ≤ 8 * pre.length →
    Ev (fun k => pelicanref03_Cat.l0 k l acc (pre.length : Int)) (if allFit suf then (acc ++ catL suf, true) else ([], false)) := by
  intro suf
  induction suf with
  | nil =>
    intro pre acc h ha
    refine Ev.step (f := fun k => some (acc, true)) (fun k => ?_) ⟨0, fun k _ => ?_⟩
    · simp only [pelicanref03_Cat.l0]
      rw [if_neg (by rw [h]; simp)]
    · simp [allFit, catL]
  | cons x suf ih =>
    intro pre acc h ha
    have hx : okN x := hok x (by rw [h]; simp)
    have hlen : l.length = pre.length + suf.length + 1 := by rw [h]; simp; omega
    have hi : (pre.length : Int) < (l.length : Int) := by omega
    have hrd : rd_T48 l (pre.length : Int) = x := by rw [h]; exact rd_mid pre x suf
    have hp := ref_put_ev x.f0 x.f1 hx.1 hx.2
    refine Ev.step (f := fun k => (pelicanref03_Put.f k x.f0 x.f1).bind fun bt => if bt.2 = true then (if acc.length + bt.1.length < 140737488355328 then pelicanref03_Cat.l0 k l (acc ++ bt.1) (wrap64 ((pre.length : Int) + 1)) else none) else some ([], false)) (fun k => ?_) ?_
    · simp only [pelicanref03_Cat.l0]
      rw [if_pos hi, if_pos (by omega), hrd]
    · by_cases hf : fits x.f0 x.f1
      · have h8 := hf.2.1
        rw [if_pos hf] at hp
        have ih' := ih (pre ++ [x]) (acc ++ be x.f1.toNat x.f0) (by rw [h]; simp) (by simp [be_length]; omega)
        have e : (if allFit (x :: suf) then (acc ++ catL (x :: suf), true) else ([], false)) = (if allFit suf then ((acc ++ be x.f1.toNat x.f0) ++ catL suf, true) else ([], false)) := by
          simp [allFit_cons, hf, catL_cons]
        rw [e]
        refine Ev.bind hp ?_
        refine Ev.congr (fun k => ?_) ih'
        simp only [if_true]
        rw [if_pos (by rw [be_length]; omega), w64 (by omega) (by omega)]
        simp
      · rw [if_neg hf] at hp
        refine Ev.bind hp (Ev.const ?_)
        simp [allFit_cons, hf]
theorem ref_cat_ev (l : List S48) (hok : ∀ x ∈ l, okN x) : Ev (fun k => pelicanref03_Cat.f k l) (if l.length ≤ 40 ∧ allFit l then (catL l, true) else ([], false)) := by
  by_cases hl : l.length ≤ 40
  · have h := ref_cat_loop l hl hok l [] [] rfl (by simp)
    refine Ev.congr (f := fun k => pelicanref03_Cat.l0 k l [] 0) (fun k => ?_) ?_
    · unfold pelicanref03_Cat.f
      rw [if_neg (by omega)]
    · simpa [hl] using h
  · refine Ev.congr (f := fun _ => some ([], false)) (fun k => ?_) (Ev.const (by simp [hl]))
    unfold pelicanref03_Cat.f
    rw [if_pos (by omega)]
/-- The second round of the reference's Cut. -/
theorem ref_cut_l1 (b : List Int) (hb : ∀ x ∈ b, 0 ≤ x ∧ x < 256) (hbl : b.length ≤ 9223372036854775807) (s : List Int) (hs : s.length ≤ 40) : ∀ (suf pre acc : List Int) (at_ : Nat), s = pre ++ suf → acc.length = pre.length → at_ ≤ b.length → okS suf (b.length - at_) = true →
    Ev (fun k => pelicanref03_Cut.l1 k b s acc (at_ : Int) (pre.length : Int)) (acc ++ cutV (b.drop at_) suf, true) := by
  intro suf
  induction suf with
  | nil =>
    intro pre acc at_ h ha hat hk
    refine Ev.step (f := fun k => some (acc, true)) (fun k => ?_) ⟨0, fun k _ => by simp [cutV]⟩
    simp only [pelicanref03_Cut.l1]
    rw [if_neg (by rw [h]; simp)]
  | cons x suf ih =>
    intro pre acc at_ h ha hat hk
    have hlen : s.length = pre.length + suf.length + 1 := by rw [h]; simp; omega
    have hi : (pre.length : Int) < (s.length : Int) := by omega
    have hrd : rd s (pre.length : Int) = x := by rw [h]; exact rdi_mid pre x suf
    simp only [okS, Bool.and_eq_true, decide_eq_true_eq] at hk
    obtain ⟨⟨⟨f1, f2⟩, f3⟩, f4⟩ := hk
    have e0 : ((b.length : Int) - ((at_ + x.toNat : Nat) : Int)) = (b.length : Int) - at_ - x := by omega
    have ih' := ih (pre ++ [x]) (acc ++ [val ((b.drop at_).take x.toNat)]) (at_ + x.toNat) (by rw [h]; simp) (by simp [ha]) (by omega) (by rw [e0]; exact f4)
    have hg := ref_get_ev b hb hbl (at_ : Int) x (by omega)
    rw [if_pos ⟨f1, f2, by omega, by omega⟩] at hg
    refine Ev.step (f := fun k => (pelicanref03_Get.f k b at_ x).bind fun bt => if acc.length < 17592186044416 then pelicanref03_Cut.l1 k b s (acc ++ [bt.1]) bt.2 (wrap64 ((pre.length : Int) + 1)) else none) (fun k => ?_) ?_
    · simp only [pelicanref03_Cut.l1]
      rw [if_pos hi, if_pos (by omega), hrd]
    · have e : acc ++ cutV (b.drop at_) (x :: suf) = (acc ++ [val ((b.drop at_).take x.toNat)]) ++ cutV (b.drop (at_ + x.toNat)) suf := by
        simp [cutV, List.drop_drop]
      rw [e]
      refine Ev.bind hg (Ev.congr (fun k => ?_) ih')
      rw [if_pos (by omega), w64 (by omega) (by omega)]
      have e2 : (at_ : Int) + x = ((at_ + x.toNat : Nat) : Int) := by omega
      simp [e2]
theorem ref_cut_l0 (b : List Int) (hb : ∀ x ∈ b, 0 ≤ x ∧ x < 256) (hbl : b.length ≤ 140737488351232) (s : List Int) (hs : s.length ≤ 60) : ∀ (suf pre : List Int) (sum : Int), s = pre ++ suf → sum = pre.sum → 0 ≤ sum → sum ≤ 8 * pre.length → (∀ k ∈ pre, 1 ≤ k ∧ k ≤ 8) → pre.length ≤ 40 →
    Ev (fun k => pelicanref03_Cut.l0 k b s sum (pre.length : Int)) (if s.length ≤ 40 ∧ okS s b.length = true then (cutV b s, true) else ([], false)) := by
  intro suf
  induction suf with
  | nil =>
    intro pre sum h hsum h0 h8 hall h40
    have hsp : s = pre := by rw [h]; simp
    have hn : ¬ (pre.length : Int) < (s.length : Int) := by rw [hsp]; simp
    have hs40 : s.length ≤ 40 := by rw [hsp]; exact h40
    by_cases he : sum = (b.length : Int)
    · have hok : okS s b.length = true := okS_of s _ (by rw [hsp]; exact hall) (by rw [hsp, ← hsum]; exact he)
      rw [if_pos ⟨hs40, hok⟩]
      refine Ev.step (f := fun k => pelicanref03_Cut.l1 k b s [] 0 0) (fun k => ?_) ?_
      · simp only [pelicanref03_Cut.l0]
        rw [if_neg hn, if_pos he]
      · have := ref_cut_l1 b hb (by omega) s hs40 s [] [] 0 rfl rfl (by omega) (by simpa using hok)
        simpa using this
    · rw [if_neg (fun h => he (by have := (okS_all s _ h.2).2; rw [hsp, ← hsum] at this; exact this))]
      refine Ev.step (f := fun k => some ([], false)) (fun k => ?_) (Ev.const rfl)
      simp only [pelicanref03_Cut.l0]
      rw [if_neg hn, if_neg he]
  | cons x suf ih =>
    intro pre sum h hsum h0 h8 hall h40
    have hlen : s.length = pre.length + suf.length + 1 := by rw [h]; simp; omega
    have hi : (pre.length : Int) < (s.length : Int) := by omega
    have hrd : rd s (pre.length : Int) = x := by rw [h]; exact rdi_mid pre x suf
    have hx : x ∈ s := by rw [h]; simp
    by_cases hf : 1 ≤ x ∧ x ≤ 8
    · by_cases h39 : pre.length < 40
      · have ih' := ih (pre ++ [x]) (sum + x) (by rw [h]; simp) (by simp [hsum]) (by omega) (by simp; omega) (by
          intro k hk
          rcases List.mem_append.1 hk with hk | hk
          · exact hall k hk
          · rw [List.mem_singleton.1 hk]; exact hf) (by simp; omega)
        refine Ev.step (fun k => ?_) ih'
        simp only [pelicanref03_Cut.l0]
        rw [if_pos hi, if_pos (by omega), hrd, if_neg (by omega), if_neg (by omega), if_neg (by omega), w64 (by omega) (by omega), w64 (by omega) (by omega)]
        simp
      · rw [if_neg (by rintro ⟨h, _⟩; omega)]
        refine Ev.step (f := fun k => some ([], false)) (fun k => ?_) (Ev.const rfl)
        simp only [pelicanref03_Cut.l0]
        rw [if_pos hi, if_pos (by omega), hrd, if_neg (by omega), if_neg (by omega), if_pos (by omega)]
    · rw [if_neg (fun h => hf ((okS_all s _ h.2).1 x hx))]
      refine Ev.step (f := fun k => some ([], false)) (fun k => ?_) (Ev.const rfl)
      simp only [pelicanref03_Cut.l0]
      rw [if_pos hi, if_pos (by omega), hrd]
      by_cases h1 : x < 1
      · rw [if_pos h1]
      · rw [if_neg h1, if_pos (by omega)]
theorem ref_cut_ev (b : List Int) (hb : ∀ x ∈ b, 0 ≤ x ∧ x < 256) (hbl : b.length ≤ 140737488351232) (s : List Int) (hs : s.length ≤ 60) :
    Ev (fun k => pelicanref03_Cut.f k b s) (if s.length ≤ 40 ∧ okS s b.length = true then (cutV b s, true) else ([], false)) :=
  ref_cut_l0 b hb hbl s hs s [] 0 rfl rfl (by omega) (by simp) (by simp) (by simp)
end Go.Proofs.Ytphfejboahcnhaa.P
