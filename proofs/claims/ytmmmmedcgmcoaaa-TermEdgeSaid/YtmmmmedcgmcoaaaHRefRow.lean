/- By hand: pelicanref05.Row. -/
import Derived.Test.YtmmmmedcgmcoaaaHRowKit
namespace Go.Proofs.Ytmmmmedcgmcoaaa.P
open Go.RowKit Go.Proofs.YtmmmmedcgmcoaaaW.PrintWords Go.Proofs.YtmmmmedcgmcoaaaW.PrintLast Go.Proofs.YtmmmmedcgmcoaaaW.PrintMore
set_option linter.unusedVariables false
set_option linter.unusedSimpArgs false
/-- What a Row tells. -/
def RowTells (P : Program) (f : FuncId) (l : List Int) : Prop := ∀ (A : Option Addr) (c : Nat) (W : World), Kd.C (Kd.int .i64) W A l.length l → l.length ≤ c →
  Calls P f #[.slice A l.length c] W fun e w' => ∃ v2_ : Value, e = .returned (.tuple #[.agg #[.int .i64 (rowR l).f0, .int .i64 (rowR l).f1, v2_], .bool (okRow l)]) ∧ Kd.V k24 24 w' W.heap.size (fun k_ => (W.heap.size ≤ k_)) v2_ (rowR l).f2 ∧ Below W.heap.size W w'
theorem rowR_no {l : List Int} (h : okRow l = false) : rowR l = z24 := by unfold rowR; rw [h]; rfl
theorem rowR_yes {l : List Int} (h : okRow l = true) : rowR l = rowT l := by unfold rowR; rw [h]; rfl
set_option maxHeartbeats 1000000 in
set_option maxRecDepth 100000 in
/-- The ways that tell none at once. -/
theorem ref_row_no (l : List Int) (A : Option Addr) (c : Nat) (W : World) (HC : Aside0 (Kd.C (Kd.int .i64) W A l.length l)) (h : l = [] ∨ (l ≠ [] ∧ 12 < l.length) ∨ (l ≠ [] ∧ l.length ≤ 12 ∧ rd l 0 < 0)) :
    Calls Try.prog 12 #[.slice A l.length c] W fun e w' => e = .returned (.tuple #[.agg #[.int .i64 0, .int .i64 0, .slice none 0 0], .bool false]) ∧ Below W.heap.size W w' := by
  have HB := Aside0.mk (below_alloc (Below.refl W.heap.size W) (.cells #[.int .i64 0, .int .i64 0, .slice none 0 0] 24 (0, 0)))
  have HN := Aside0.mk (blk_new W (.cells #[.int .i64 0, .int .i64 0, .slice none 0 0] 24 (0, 0)))
  rcases h with rfl | ⟨h0, h1⟩ | ⟨h0, h1, h2⟩
  · go_enter Try.func12, Try.ntmps12
    go_wp2
    exact bodyPost_ret (results_ct rfl _ _ W.heap.size 24 #[.int .i64 0, .int .i64 0, .slice none 0 0] (0, 0) _ rfl HN.out Try.underlying24 rfl (by kernel_rfl)) rfl ⟨rfl, HB.out⟩
  · have e0 : ((l.length : Int) == 0) = false := by simpa using h0
    have e1 : (12 : Int) < (l.length : Int) := by omega
    clear h0
    go_enter Try.func12, Try.ntmps12
    go_wp2
    exact bodyPost_ret (results_ct rfl _ _ W.heap.size 24 #[.int .i64 0, .int .i64 0, .slice none 0 0] (0, 0) _ rfl HN.out Try.underlying24 rfl (by kernel_rfl)) rfl ⟨rfl, HB.out⟩
  · have hp : 0 < l.length := List.length_pos_iff.mpr h0
    obtain ⟨ad, e, hx⟩ := Kd.at_int HC.out 0 (by omega) (by omega)
    subst e
    simp only [show (0 : Int).toNat = 0 from rfl] at hx
    rw [Addr.add_zero'] at hx
    have hx2 := alloc_far hx (.cells #[.int .i64 0, .int .i64 0, .slice none 0 0] 24 (0, 0))
    have e0 : ((l.length : Int) == 0) = false := by simpa using h0
    have e1 : (l.length : Int) ≤ 12 := by omega
    have e2 : (0 : Int) < (l.length : Int) := by omega
    obtain ⟨x, hxx⟩ : ∃ x, x = rd l 0 := ⟨_, rfl⟩
    rw [← hxx] at hx hx2 h2
    clear h0 hxx
    go_enter Try.func12, Try.ntmps12
    go_wp2
    exact bodyPost_ret (results_ct rfl _ _ W.heap.size 24 #[.int .i64 0, .int .i64 0, .slice none 0 0] (0, 0) _ rfl HN.out Try.underlying24 rfl (by kernel_rfl)) rfl ⟨rfl, HB.out⟩
theorem head_cell {x : Int} {l : List Int} {W : World} {A : Option Addr} (HC : Kd.C (Kd.int .i64) W A (x :: l).length (x :: l)) : ∃ ad, A = some ad ∧ W.cell? ad = some (.int .i64 x) := by
  obtain ⟨ad, e, hx⟩ := Kd.at_int HC 0 (by omega) (by simp)
  simp only [show (0 : Int).toNat = 0 from rfl] at hx
  rw [Addr.add_zero'] at hx
  exact ⟨ad, e, hx⟩
set_option maxHeartbeats 1000000 in
set_option maxRecDepth 100000 in
theorem ref_row_one (x : Int) (h0 : 0 ≤ x) (A : Option Addr) (c : Nat) (W : World) (HC : Aside0 (Kd.C (Kd.int .i64) W A [x].length [x])) :
    Calls Try.prog 12 #[.slice A [x].length c] W fun e w' => e = .returned (.tuple #[.agg #[.int .i64 0, .int .i64 x, .slice none 0 0], .bool true]) ∧ Below W.heap.size W w' := by
  obtain ⟨ad, e, hx⟩ := head_cell HC.out
  subst e
  have hx2 := alloc_far hx (.cells #[.int .i64 0, .int .i64 0, .slice none 0 0] 24 (0, 0))
  have hx3 := alloc_far hx2 (.cells #[.int .i64 0, .int .i64 x, .slice none 0 0] 24 (0, 0))
  have HB := Aside0.mk (below_alloc (below_alloc (Below.refl W.heap.size W) (.cells #[.int .i64 0, .int .i64 0, .slice none 0 0] 24 (0, 0))) (.cells #[.int .i64 0, .int .i64 x, .slice none 0 0] 24 (0, 0)))
  have HN := Aside0.mk (blk_alloc (blk_new W (.cells #[.int .i64 0, .int .i64 0, .slice none 0 0] 24 (0, 0))) (.cells #[.int .i64 0, .int .i64 x, .slice none 0 0] 24 (0, 0)))
  go_enter Try.func12, Try.ntmps12
  go_wp2
  exact bodyPost_ret (results_ct rfl _ _ W.heap.size 24 #[.int .i64 0, .int .i64 x, .slice none 0 0] (0, 0) _ rfl (blk_alloc (blk_new W (.cells #[.int .i64 0, .int .i64 x, .slice none 0 0] 24 (0, 0))) _) Try.underlying24 rfl (by kernel_rfl)) rfl ⟨rfl, below_alloc (below_alloc (Below.refl _ _) _) _⟩
theorem okRow_cons {x y : Int} {l : List Int} (h0 : 0 ≤ x) (h1 : (x :: y :: l).length ≤ 12) : okRow (x :: y :: l) = okRow (y :: l) := by
  unfold okRow
  rw [decide_eq_true h1, decide_eq_true (show (y :: l).length ≤ 12 by simp at h1 ⊢; omega), List.all_cons, decide_eq_true h0]
  simp
set_option maxHeartbeats 1000000 in
set_option maxRecDepth 100000 in
theorem ref_row_more (x y : Int) (l : List Int) (h0 : 0 ≤ x) (h1 : (x :: y :: l).length ≤ 12) (ih : Aside0 (RowTells Try.prog 12 (y :: l))) (A : Option Addr) (c : Nat) (W : World) (HC : Aside0 (Kd.C (Kd.int .i64) W A (x :: y :: l).length (x :: y :: l))) (hc : (x :: y :: l).length ≤ c) :
    Calls Try.prog 12 #[.slice A (x :: y :: l).length c] W fun e w' => ∃ v2_ : Value, e = .returned (.tuple #[.agg #[.int .i64 (rowR (x :: y :: l)).f0, .int .i64 (rowR (x :: y :: l)).f1, v2_], .bool (okRow (x :: y :: l))]) ∧ Kd.V k24 24 w' W.heap.size (fun k_ => (W.heap.size ≤ k_)) v2_ (rowR (x :: y :: l)).f2 ∧ Below W.heap.size W w' := by
  obtain ⟨ad, e, hx⟩ := head_cell HC.out
  subst e
  have hx2 := alloc_far hx (.cells #[.int .i64 0, .int .i64 0, .slice none 0 0] 24 (0, 0))
  have hx3 := alloc_far hx2 (.cells #[.int .i64 0, .int .i64 x, .slice none 0 0] 24 (0, 0))
  have hlen : (x :: y :: l).length = (y :: l).length + 1 := rfl
  obtain ⟨n, hn⟩ : ∃ n, n = (y :: l).length := ⟨_, rfl⟩
  have hn1 : 1 ≤ n := by rw [hn]; simp
  have hsl := sl_lo ad (n + 1) c (by omega) (by rw [hn]; omega) (by have := HC.out.2.1; omega)
  have hc1 : ¬ c = 1 := by rw [hlen] at hc; omega
  rw [Nat.add_sub_cancel, if_neg hc1, Option.map_some, show ad.add (1 * 1) = ⟨ad.block, ad.off + 1, none⟩ by simp [Addr.add]] at hsl
  have hn12 : n + 1 ≤ 12 := by omega
  have hcd := Kd.C_drop HC.out (show 1 ≤ (x :: y :: l).length by simp) hc
  rw [List.drop_one, List.tail_cons] at hcd
  have HD := Aside0.mk hcd
  have HLC : Aside0 ((y :: l).length ≤ c - 1) := ⟨by omega⟩
  have HK := Aside0.mk (okRow_cons h0 h1)
  have HLN := Aside0.mk hn
  have B2 := Aside0.mk (blk_alloc (blk_new W (.cells #[.int .i64 0, .int .i64 0, .slice none 0 0] 24 (0, 0))) (.cells #[.int .i64 0, .int .i64 x, .slice none 0 0] 24 (0, 0)))
  have b4 := blk_new (W.alloc (.cells #[.int .i64 0, .int .i64 0, .slice none 0 0] 24 (0, 0))) (.cells #[.int .i64 0, .int .i64 x, .slice none 0 0] 24 (0, 0))
  rw [show (W.alloc (.cells #[.int .i64 0, .int .i64 0, .slice none 0 0] 24 (0, 0))).heap.size = W.heap.size + 1 from Array.size_push _] at b4
  have B4 := Aside0.mk b4
  have HB := Aside0.mk (below_alloc (below_alloc (Below.refl W.heap.size W) (.cells #[.int .i64 0, .int .i64 0, .slice none 0 0] 24 (0, 0))) (.cells #[.int .i64 0, .int .i64 x, .slice none 0 0] 24 (0, 0)))
  have hA : (if c = 1 then some ad else Option.map (fun x => x.add (1 * (Kd.int .i64).sz)) (some ad)) = some ⟨ad.block, ad.off + 1, none⟩ := by rw [if_neg hc1]; simp [Addr.add, Kd.int, Kd.scalar]
  have hD2 := Kd.C_below HD.out HB.out
  rw [hA, ← hn] at hD2
  have HD2 := Aside0.mk hD2
  have IH2 : Aside0 (∀ (A' : Option Addr) (W' : World), Kd.C (Kd.int .i64) W' A' n (y :: l) → Calls Try.prog 12 #[.slice A' n (c - 1)] W' fun e w' => ∃ v2_ : Value, e = .returned (.tuple #[.agg #[.int .i64 (rowR (y :: l)).f0, .int .i64 (rowR (y :: l)).f1, v2_], .bool (okRow (y :: l))]) ∧ Kd.V k24 24 w' W'.heap.size (fun k_ => (W'.heap.size ≤ k_)) v2_ (rowR (y :: l)).f2 ∧ Below W'.heap.size W' w') := ⟨fun A' W' h => by rw [hn] at h ⊢; exact ih.out A' (c - 1) W' h HLC.out⟩
  rw [hlen, ← hn]
  have e0 : (((n : Int) + 1) == 1) = false := by simp; omega
  have e1 : (((n : Int) + 1) == 0) = false := by simp; omega
  have e2 : (12 : Int) < (n : Int) + 1 ↔ False := by simp; omega
  clear hc1 hcd hc hn hlen b4 h1 hA hD2 ih HD HLC
  have hW2 : ((W.alloc (.cells #[.int .i64 0, .int .i64 0, .slice none 0 0] 24 (0, 0))).alloc (.cells #[.int .i64 0, .int .i64 x, .slice none 0 0] 24 (0, 0))).heap.size = W.heap.size + 2 := by rw [show ∀ (w : World) (o : Obj), (w.alloc o).heap.size = w.heap.size + 1 from fun w o => Array.size_push _, show ∀ (w : World) (o : Obj), (w.alloc o).heap.size = w.heap.size + 1 from fun w o => Array.size_push _]
  have HW2 := Aside0.mk hW2
  clear hW2
  cases hk : okRow (y :: l) with
  | false =>
    have HR := Aside0.mk (rowR_no hk)
    have HR2 := Aside0.mk (rowR_no (HK.out.trans hk))
    have HKK := Aside0.mk hk
    clear hk
    rw [HK.out, HKK.out, HR2.out]
    go_enter Try.func12, Try.ntmps12
    go_wp2_with (first | (go_at_call 12; refine (IH2.out _ _ HD2.out).mono ?_; rw [HKK.out, HR.out]; rintro e w1 ⟨v2, rfl, hV, hb⟩; obtain ⟨A5, c5, rfl⟩ := Kd.V_slice hV; have BB2 := blk_alloc (blk_below B2.out hb) (.cells #[.int .i64 z24.f0, .int .i64 z24.f1, .slice A5 z24.f2.length c5] 24 (0, 0)); have BB4 := blk_alloc (blk_below B4.out hb) (.cells #[.int .i64 z24.f0, .int .i64 z24.f1, .slice A5 z24.f2.length c5] 24 (0, 0)); obtain ⟨⟨k0, k1, k2⟩, f0, f1, f2⟩ := cells3 BB2; obtain ⟨⟨j0, j1, j2⟩, _⟩ := cells3 BB4; have HBB2 := Aside0.mk BB2; have HV := Aside0.mk hV; have HB5 := Aside0.mk (below_step HB.out hb); have HS5 := Aside0.mk hb.size; clear BB2 BB4 hV hb))
    refine bodyPost_ret (results_ct rfl _ _ W.heap.size 24 #[.int .i64 0, .int .i64 0, .slice none 0 0] (0, 0) _ rfl (blk_put (blk_put (blk_put HBB2.out 0 _ rfl) 1 _ rfl) 2 _ rfl) Try.underlying24 rfl (by kernel_rfl)) rfl ⟨_, rfl, Kd.V_nil _ _ _ _ _, ?_⟩
    exact below_set (below_set (below_set (below_alloc HB5.out _) (Nat.le_refl _)) (Nat.le_refl _)) (Nat.le_refl _)
  | true =>
    have HR := Aside0.mk (rowR_yes hk)
    have HR2 := Aside0.mk (rowR_yes (HK.out.trans hk))
    have HKK := Aside0.mk hk
    clear hk
    rw [HK.out, HKK.out, HR2.out]
    go_enter Try.func12, Try.ntmps12
    go_wp2_with (first | (go_at_call 12; refine (IH2.out _ _ HD2.out).mono ?_; rw [HKK.out, HR.out]; rintro e w1 ⟨v2, rfl, hV, hb⟩; obtain ⟨A5, c5, rfl⟩ := Kd.V_slice hV; have BB2 := blk_alloc (blk_below B2.out hb) (.cells #[.int .i64 (rowT (y :: l)).f0, .int .i64 (rowT (y :: l)).f1, .slice A5 (rowT (y :: l)).f2.length c5] 24 (0, 0)); have BB4 := blk_alloc (blk_below B4.out hb) (.cells #[.int .i64 (rowT (y :: l)).f0, .int .i64 (rowT (y :: l)).f1, .slice A5 (rowT (y :: l)).f2.length c5] 24 (0, 0)); obtain ⟨⟨k0, k1, k2⟩, f0, f1, f2⟩ := cells3 BB2; obtain ⟨⟨j0, j1, j2⟩, _⟩ := cells3 BB4; have BB3 := blk_alloc BB2 (.cells #[.int .i64 0, .int .i64 x, .slice none 0 0, .int .i64 (rowT (y :: l)).f0, .int .i64 (rowT (y :: l)).f1, .slice A5 (rowT (y :: l)).f2.length c5] 24 (0, 0)); obtain ⟨⟨m0, m1, m2⟩, g0, g1, g2⟩ := cells3 BB3; have HBB3 := Aside0.mk BB3; have HV := Aside0.mk hV; have HB5 := Aside0.mk (below_step HB.out hb); have HS5 := Aside0.mk hb.size; clear BB2 BB3 BB4 hV hb))
    have hs1 : W.heap.size + 2 ≤ w1.heap.size := by have := HS5.out; rw [HW2.out] at this; exact this
    have b6 := blk_new (w1.alloc (.cells #[.int .i64 (rowT (y :: l)).f0, .int .i64 (rowT (y :: l)).f1, .slice A5 (rowT (y :: l)).f2.length c5] 24 (0, 0))) (.cells #[.int .i64 0, .int .i64 x, .slice none 0 0, .int .i64 (rowT (y :: l)).f0, .int .i64 (rowT (y :: l)).f1, .slice A5 (rowT (y :: l)).f2.length c5] 24 (0, 0))
    rw [show (w1.alloc (.cells #[.int .i64 (rowT (y :: l)).f0, .int .i64 (rowT (y :: l)).f1, .slice A5 (rowT (y :: l)).f2.length c5] 24 (0, 0))).heap.size = w1.heap.size + 1 from Array.size_push _] at b6
    have hne : w1.heap.size + 1 ≠ W.heap.size := by omega
    refine bodyPost_ret (results_ct rfl _ _ W.heap.size 24 #[.int .i64 2, .int .i64 0, .slice (some ⟨w1.heap.size + 1, 0, none⟩) 2 2] (0, 0) _ rfl (blk_put (blk_put (blk_put HBB3.out 0 _ rfl) 1 _ rfl) 2 _ rfl) Try.underlying24 rfl (by kernel_rfl)) rfl ⟨_, rfl, ?_, ?_⟩
    · refine V_two (a := word x) (b := rowT (y :: l)) (blk_far (blk_far (blk_far b6 hne _) hne _) hne _) (by omega) (FK_word _ _ _) (FK_of_V (base := W.heap.size) ?_)
      have h1 := Kd.V_mono (ok' := fun k_ => W.heap.size + 2 ≤ k_) HV.out (fun k hk => by rw [HW2.out] at hk; exact hk)
      have h2 := Kd.V_alloc (Kd.V_alloc h1 (.cells #[.int .i64 (rowT (y :: l)).f0, .int .i64 (rowT (y :: l)).f1, .slice A5 (rowT (y :: l)).f2.length c5] 24 (0, 0))) (.cells #[.int .i64 0, .int .i64 x, .slice none 0 0, .int .i64 (rowT (y :: l)).f0, .int .i64 (rowT (y :: l)).f1, .slice A5 (rowT (y :: l)).f2.length c5] 24 (0, 0))
      have hk : ∀ k, W.heap.size + 2 ≤ k → k ≠ W.heap.size := fun k hk => by omega
      exact Kd.V_mono (Kd.V_far (p := ⟨W.heap.size, 2, none⟩) (Kd.V_far (p := ⟨W.heap.size, 1, none⟩) (Kd.V_far (p := ⟨W.heap.size, 0, none⟩) h2 hk _) hk _) hk _) (fun k hk => by omega)
    · exact below_set (below_set (below_set (below_alloc (below_alloc HB5.out _) _) (Nat.le_refl _)) (Nat.le_refl _)) (Nat.le_refl _)
theorem ref_row_tells : ∀ l : List Int, RowTells Try.prog 12 l := by
  intro l
  induction l with
  | nil =>
    intro A c W HC hc
    refine (ref_row_no [] A c W ⟨HC⟩ (.inl rfl)).mono ?_
    rintro e w' ⟨rfl, hb⟩
    exact ⟨_, rfl, Kd.V_nil _ _ _ _ _, hb⟩
  | cons x l ih =>
    intro A c W HC hc
    have no : ∀ (h : (x :: l).length > 12 ∨ x < 0), okRow (x :: l) = false := by
      intro h
      unfold okRow
      rcases h with h | h
      · rw [decide_eq_false (show ¬ (x :: l).length ≤ 12 by omega)]; simp
      · rw [List.all_cons, decide_eq_false (show ¬ 0 ≤ x by omega)]; simp
    have fin : ∀ (h : (x :: l).length > 12 ∨ x < 0), (x :: l = [] ∨ (x :: l ≠ [] ∧ 12 < (x :: l).length) ∨ (x :: l ≠ [] ∧ (x :: l).length ≤ 12 ∧ rd (x :: l) 0 < 0)) → Calls Try.prog 12 #[.slice A (x :: l).length c] W fun e w' => ∃ v2_ : Value, e = .returned (.tuple #[.agg #[.int .i64 (rowR (x :: l)).f0, .int .i64 (rowR (x :: l)).f1, v2_], .bool (okRow (x :: l))]) ∧ Kd.V k24 24 w' W.heap.size (fun k_ => (W.heap.size ≤ k_)) v2_ (rowR (x :: l)).f2 ∧ Below W.heap.size W w' := by
      intro h h2
      refine (ref_row_no (x :: l) A c W ⟨HC⟩ h2).mono ?_
      rintro e w' ⟨rfl, hb⟩
      rw [rowR_no (no h), no h]
      exact ⟨_, rfl, Kd.V_nil _ _ _ _ _, hb⟩
    by_cases h12 : 12 < (x :: l).length
    · exact fin (.inl h12) (.inr (.inl ⟨by simp, h12⟩))
    · by_cases h0 : 0 ≤ x
      · cases l with
        | nil =>
          have hk : okRow [x] = true := by simp [okRow, h0]
          refine (ref_row_one x h0 A c W ⟨HC⟩).mono ?_
          rintro e w' ⟨rfl, hb⟩
          rw [rowR_yes hk, hk]
          exact ⟨_, rfl, Kd.V_nil _ _ _ _ _, hb⟩
        | cons y l => exact ref_row_more x y l h0 (by omega) ⟨ih⟩ A c W ⟨HC⟩ hc
      · exact fin (.inr (by omega)) (.inr (.inr ⟨by simp, by omega, by show rd (x :: l) 0 < 0; have : rd (x :: l) 0 = x := rfl; omega⟩))
def pelicanref05_Row.f (l0 : List Int) : Option (Int × Int × (List (S24)) × Bool) := some ((rowR l0).f0, (rowR l0).f1, (rowR l0).f2, okRow l0)
theorem pelicanref05_Row.calls (A0 : Option Addr) (c0 : Nat) (l0 : List Int) (r1 : Int) (r2 : Int) (r3 : List (S24)) (r4 : Bool) (w : World) (hr0 : Kd.C (Kd.int .i64) w A0 l0.length l0) (hc0 : l0.length ≤ c0) (h : pelicanref05_Row.f l0 = some (r1, r2, r3, r4)) :
    Calls Try.prog 12 #[.slice A0 l0.length c0] w fun e w' => ∃ v2_ : Value, e = .returned (.tuple #[.agg #[.int .i64 r1, .int .i64 r2, v2_], .bool r4]) ∧ Kd.V k24 24 w' w.heap.size (fun k_ => (w.heap.size ≤ k_)) v2_ r3 ∧ Below w.heap.size w w' := by
  simp only [pelicanref05_Row.f, Option.some.injEq, Prod.mk.injEq] at h
  obtain ⟨rfl, rfl, rfl, rfl⟩ := h
  exact ref_row_tells l0 A0 c0 w hr0 hc0
end Go.Proofs.Ytmmmmedcgmcoaaa.P
