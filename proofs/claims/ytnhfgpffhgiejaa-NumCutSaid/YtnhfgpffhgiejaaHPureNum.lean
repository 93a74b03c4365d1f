/- Plain facts about num's functions, as the walks tell them. -/
import Derived.Test.YtnhfgpffhgiejaaPx1
import Derived.Test.YtnhfgpffhgiejaaPx2
import Derived.Test.YtnhfgpffhgiejaaHPureKit
namespace Go.Proofs.Ytnhfgpffhgiejaa.P
open Go.RowKit Go.Proofs.YtnhfgpffhgiejaaW.PrintWords Go.Proofs.YtnhfgpffhgiejaaW.PrintLast
set_option linter.unusedVariables false
set_option linter.unusedSimpArgs false
theorem put_f {n k : Int} (h : 0 ≤ n ∧ n < 18446744073709551616) : num_Put.f n k = some (if fits n k then (be k.toNat n, true) else ([], false)) := by
  unfold num_Put.f
  rw [if_pos h]
theorem put_fits {n k : Int} (h : 0 ≤ n ∧ n < 18446744073709551616) (hf : fits n k) : num_Put.f n k = some (be k.toNat n, true) := by
  rw [put_f h, if_pos hf]
theorem put_not {n k : Int} (h : 0 ≤ n ∧ n < 18446744073709551616) (hf : ¬ fits n k) : num_Put.f n k = some ([], false) := by
  rw [put_f h, if_neg hf]
theorem get_f {l : List Int} (h : ∀ x ∈ l, 0 ≤ x ∧ x < 256) (a k : Int) : num_Get.f l a k = some (if 1 ≤ k ∧ k ≤ 8 ∧ 0 ≤ a ∧ a + k ≤ l.length then (val ((l.drop a.toNat).take k.toNat), a + k) else (0, -1)) := by
  unfold num_Get.f
  rw [if_pos (bytesB_iff.2 h)]
theorem awake_f : pelicanlaw03_awake.f = some true := by
  decide +kernel
theorem fits_8 {n : Int} (h : 0 ≤ n ∧ n < 18446744073709551616) : fits n 8 := ⟨by omega, by omega, h.2⟩
theorem fits_more {n k : Int} (h0 : 0 ≤ n) (h : fits n k) (h8 : k < 8) : fits n (k + 1) := by
  obtain ⟨h1, h2, h3⟩ := h
  refine ⟨by omega, by omega, ?_⟩
  rw [show (k + 1).toNat = k.toNat + 1 by omega, Int.pow_succ]
  omega
theorem NumFits_pure : pelicanlaw03_NumFits.Pure := by
  intro n k hn hk
  have hn := wf_u64.1 hn
  have hk := wf_i64.1 hk
  unfold pelicanlaw03_NumFits.f
  have h7 : ¬ fits 18446744073709551615 7 := by decide
  rw [awake_f, Option.bind_some, put_fits hn (fits_8 hn), put_not (by omega) h7]
  by_cases h1 : fits n k
  · rw [put_fits hn h1, Option.bind_some]
    have hb := h1.1
    have hb2 := h1.2.1
    by_cases h8 : k = 8
    · subst h8
      rw [put_f hn]
      simp
    · rw [w64 (by omega) (by omega), put_fits hn (fits_more hn.1 h1 (by omega))]
      have hk1 : ¬ k < 1 := by omega
      have hk2 : ¬ k > 8 := by omega
      simp [h8, hk1, hk2]
  · rw [put_not hn h1, put_f hn]
    simp

theorem val_cons (x : Int) (l : List Int) : val (x :: l) = x * 256 ^ l.length + val l := by
  induction l using snoc_ind with
  | h0 => simp [val]
  | hs l c ih =>
    rw [show x :: (l ++ [c]) = (x :: l) ++ [c] from rfl, val_snoc, ih, val_snoc, List.length_append, List.length_singleton, Int.pow_succ, Int.add_mul, Int.mul_assoc]
    omega
theorem be_cons (k : Nat) : ∀ n : Int, be (k + 1) n = (n / 256 ^ k % 256) :: be k n := by
  induction k with
  | zero => intro n; simp [be]
  | succ k ih =>
    intro n
    rw [be, ih, be]
    have e : n / 256 ^ (k + 1) = n / 256 / 256 ^ k := by
      rw [Int.pow_succ, Int.mul_comm, Int.ediv_ediv_of_nonneg (by omega)]
    rw [e]
    rfl
theorem less_val : ∀ (a b : List Int), a.length = b.length → (∀ x ∈ a, 0 ≤ x ∧ x < 256) → (∀ x ∈ b, 0 ≤ x ∧ x < 256) →
    Op.bytesLess (a.map fun n => UInt8.ofNat n.toNat) (b.map fun n => UInt8.ofNat n.toNat) = decide (val a < val b)
  | [], [], _, _, _ => by simp [Op.bytesLess]
  | [], _ :: _, h, _, _ => by simp at h
  | _ :: _, [], h, _, _ => by simp at h
  | x :: a, y :: b, h, ha, hb => by
    simp only [List.length_cons, Nat.add_right_cancel_iff] at h
    have ih := less_val a b h (fun z hz => ha z (by simp [hz])) (fun z hz => hb z (by simp [hz]))
    have hx := ha x (by simp)
    have hy := hb y (by simp)
    have va := val_bound a (fun z hz => ha z (by simp [hz]))
    have vb := val_bound b (fun z hz => hb z (by simp [hz]))
    rw [List.map_cons, List.map_cons, Op.bytesLess, ih, val_cons, val_cons, h]
    rw [h] at va
    have e1 : (UInt8.ofNat x.toNat < UInt8.ofNat y.toNat) ↔ x < y := by
      rw [UInt8.lt_iff_toNat_lt]
      simp only [UInt8.toNat_ofNat']
      omega
    have e2 : (UInt8.ofNat x.toNat == UInt8.ofNat y.toNat) = decide (x = y) := by
      by_cases hxy : x = y
      · subst hxy; simp
      · have : ¬ UInt8.ofNat x.toNat = UInt8.ofNat y.toNat := fun e => hxy (byte_inj hx hy e)
        simp [this, hxy]
    rw [e2, Bool.eq_iff_iff]
    simp only [Bool.or_eq_true, Bool.and_eq_true, decide_eq_true_eq, e1]
    generalize (256 : Int) ^ b.length = P at *
    rcases Int.lt_trichotomy x y with hlt | heq | hgt
    · have : (x + 1) * P ≤ y * P := Int.mul_le_mul_of_nonneg_right (by omega) (by omega)
      rw [Int.add_mul] at this
      constructor
      · intro _; omega
      · intro _; exact .inl hlt
    · subst heq
      constructor
      · rintro (h | ⟨_, h⟩) <;> omega
      · intro h; exact .inr ⟨rfl, by omega⟩
    · have : (y + 1) * P ≤ x * P := Int.mul_le_mul_of_nonneg_right (by omega) (by omega)
      rw [Int.add_mul] at this
      constructor
      · rintro (h | ⟨h, _⟩) <;> omega
      · intro h; exfalso; omega
theorem val_be_of {n k : Int} (h0 : 0 ≤ n) (h : fits n k) : val (be k.toNat n) = n := val_be_fits h0 h.2.2
theorem NumOrder_pure : pelicanlaw03_NumOrder.Pure := by
  intro n m k hn hm hk
  have hn := wf_u64.1 hn
  have hm := wf_u64.1 hm
  have hk := wf_i64.1 hk
  unfold pelicanlaw03_NumOrder.f
  rw [awake_f, Option.bind_some]
  by_cases h1 : fits n k
  · by_cases h2 : fits m k
    · rw [put_fits hn h1, put_fits hm h2]
      simp only [Option.bind_some, if_true]
      have hb := h1.1
      have hb2 := h1.2.1
      rw [strOf_toList, strOf_toList, less_val _ _ (by rw [be_length, be_length]) (be_byte _ _) (be_byte _ _), val_be_of hn.1 h1, val_be_of hm.1 h2, w64 (by omega) (by omega)]
      by_cases h8 : k = 8
      · subst h8
        rw [put_not hn (by intro h; have := h.2.1; omega)]
        simp
      · rw [put_fits hn (fits_more hn.1 h1 (by omega))]
        have e : (k + 1).toNat = k.toNat + 1 := by omega
        have hz : (strOfNums (be (k.toNat + 1) n)).toList = ((⟨#[0]⟩ : ByteArray) ++ (strOfNums (be k.toNat n))).toList := by
          rw [be_cons, Int.ediv_eq_zero_of_lt hn.1 h1.2.2, strOf_toList, toList_data_, ByteArray.toList_data_append]
          rfl
        have hs : 1 + (strOfNums (be k.toNat n)).size ≤ 9223372036854775807 := by rw [strOf_size, be_length]; omega
        have h9 : k < 8 := by omega
        simp only [e, Option.bind_some, hz]
        simp [h8, h9, hs]
    · rw [put_fits hn h1, put_not hm h2]
      simp
  · rw [put_not hn h1, put_f hm]
    simp
theorem NumBack_pure : pelicanlaw03_NumBack.Pure := by
  intro n k a b at_ hn hk _ ha1 ha _ hb1 hb hat
  have hn := wf_u64.1 hn
  have hk := wf_i64.1 hk
  have hat := wf_i64.1 hat
  have ha : ∀ x ∈ a, 0 ≤ x ∧ x < 256 := fun x hx => wf_u8.1 (ha x hx)
  have hb : ∀ x ∈ b, 0 ≤ x ∧ x < 256 := fun x hx => wf_u8.1 (hb x hx)
  have h2 : ∀ K, pelicanlaw03_NumBack.j2 (K + 1) k b at_ false = some true := by
    intro K
    simp only [pelicanlaw03_NumBack.j2]
    rw [if_neg (by simp), get_f hb, Option.bind_some]
    by_cases hg : 1 ≤ k ∧ k ≤ 8 ∧ 0 ≤ at_ ∧ at_ + k ≤ b.length
    · rw [if_pos hg]
      obtain ⟨g1, g2, g3, g4⟩ := hg
      have hsl : ((b.drop at_.toNat).take k.toNat).length = k.toNat := by rw [List.length_take, List.length_drop]; omega
      have hby : ∀ x ∈ (b.drop at_.toNat).take k.toNat, 0 ≤ x ∧ x < 256 := fun x hx => hb x (List.mem_of_mem_drop (List.mem_of_mem_take hx))
      have hv := val_bound _ hby
      rw [hsl] at hv
      have h9 : (256 : Int) ^ k.toNat ≤ 18446744073709551616 := by
        have hall : ∀ m, m < 9 → (256 : Int) ^ m ≤ 18446744073709551616 := by decide
        exact hall _ (by omega)
      have hbe := be_val _ hby
      rw [hsl] at hbe
      rw [put_fits (by omega) ⟨g1, g2, hv.2⟩, hbe]
      have e : (b.take (at_ + k).toNat).drop at_.toNat = (b.drop at_.toNat).take k.toNat := by
        rw [List.drop_take]
        congr 1
        omega
      simp only [Option.bind_some, e]
      have q1 : ¬ at_ + k < 0 := by omega
      have q2 : 0 ≤ at_ := by omega
      have q3 : at_ + k > at_ := by omega
      have q4 : at_ ≤ at_ + k := by omega
      simp only [if_neg q1, if_true, if_pos q2, if_pos q3, if_pos q4, if_pos g4]
      simp [q2]
    · rw [if_neg hg]
      simp
  have h1 : ∀ K, a.length ≤ 200 → b.length ≤ 200 → pelicanlaw03_NumBack.j0 (K + 3) n k a b at_ true false = some true := by
    intro K ha2 hb2
    simp only [pelicanlaw03_NumBack.j0]
    rw [if_neg (by simp)]
    by_cases hf : fits n k
    · have hk1 := hf.1
      have hk2 := hf.2.1
      rw [put_fits hn hf]
      simp only [Option.bind_some, if_true]
      have e0 : ((be k.toNat n).length : Int) = k := by rw [be_length]; omega
      simp only [e0, bne_self_eq_false]
      simp only [pelicanlaw03_NumBack.j1]
      rw [if_neg (by simp), if_pos (by simp; omega), Option.bind_some, if_pos (by simp [be_length]; omega), Option.bind_some, if_pos (by simp [be_length]; omega), get_f (by
        intro x hx
        simp only [List.nil_append, List.mem_append] at hx
        rcases hx with (hx | hx) | hx
        · exact ha x hx
        · exact be_byte _ _ x hx
        · exact hb x hx)]
      simp only [Option.bind_some]
      have hg : 1 ≤ k ∧ k ≤ 8 ∧ 0 ≤ (a.length : Int) ∧ (a.length : Int) + k ≤ ((([] : List Int) ++ a ++ be k.toNat n ++ b).length : Int) := ⟨hk1, hk2, by omega, by simp [be_length]; omega⟩
      simp only [if_pos hg]
      have e : ((([] ++ a ++ be k.toNat n ++ b).drop (a.length : Int).toNat).take k.toNat) = be k.toNat n := by
        rw [List.nil_append, List.append_assoc, Int.toNat_natCast, List.drop_left, List.take_left' (be_length _ _)]
      rw [e]
      simp only [if_true, val_be_of hn.1 hf]
      rw [w64 (by omega) (by omega)]
      simp [h2]
    · rw [put_not hn hf]
      simp only [Option.bind_some, Bool.false_eq_true, if_false]
      simp only [pelicanlaw03_NumBack.j1]
      rw [if_neg (by simp), if_pos (by simp; omega), Option.bind_some, if_pos (by simp; omega), Option.bind_some, if_pos (by simp; omega), get_f (by
        intro x hx
        simp only [List.nil_append, List.append_nil, List.mem_append] at hx
        rcases hx with hx | hx
        · exact ha x hx
        · exact hb x hx), Option.bind_some, if_neg (by simp)]
      exact h2 _
  refine ⟨3, ?_⟩
  unfold pelicanlaw03_NumBack.f
  rw [awake_f, Option.bind_some, if_pos rfl]
  by_cases g1 : (a.length : Int) > 200
  · rw [if_pos g1]
    simp [pelicanlaw03_NumBack.j0]
  · rw [if_neg g1]
    by_cases g2 : (b.length : Int) > 200
    · simp [pelicanlaw03_NumBack.j0, g2]
    · simp only [g2, decide_false]
      exact h1 0 (by omega) (by omega)
end Go.Proofs.Ytnhfgpffhgiejaa.P
