/- By hand: store.Write. -/
import Derived.Test.YtlldfihhdbbicaaHStore2
import Derived.Test.YtlldfihhdbbicaaPx3
namespace Go.Proofs.Ytlldfihhdbbicaa.P
open Go.RowKit Go.Lib Go.Proofs.YtlldfihhdbbicaaW.PrintWords Go.Proofs.YtlldfihhdbbicaaW.PrintLast Go.Proofs.YtlldfihhdbbicaaW.PrintMore
set_option linter.unusedVariables false
set_option linter.unusedSimpArgs false
set_option maxHeartbeats 400000 in
set_option maxRecDepth 100000 in
theorem do_write_full (a0_0 : Int) (A0_1 : Option Addr) (c0_1 : Nat) (l0_1 : List Int) (a0_2 : Int) (A2_ : Option Addr) (c2_ : Nat) (l1 : List Int) (a1 : Int) (l : List Int) (q : Int) (w : World) (hr0_1 : Kd.C (Kd.int .u8) w A0_1 l0_1.length l0_1) (hc0_1 : l0_1.length ≤ c0_1) (hr1 : Kd.C (Kd.int .u8) w A2_ l1.length l1) (hc1 : l1.length ≤ c2_) (hm : store_May.f a0_0 l0_1 a0_2 = some true) (hl : store_own.f a0_0 l0_1 a0_2 = some (a0_0, l, a0_2)) (hq : store_Left.f a0_0 l a0_2 = some q)
    (hb : decide (q < (l1.length : Int)) = true) :
    Calls Try.prog 28 #[.agg #[.int .i64 a0_0, .slice A0_1 l0_1.length c0_1, .int .i64 a0_2], .func (.func 31) #[] #[], .slice A2_ l1.length c2_, .int .i64 a1] w fun e w' => ∃ v1_ : Value, e = .returned (.tuple #[.agg #[.int .i64 a0_0, v1_, .int .i64 a0_2], .int .i64 (12)]) ∧ Kd.V (Kd.int .u8) 5 w' w.heap.size (fun k_ => (w.heap.size ≤ k_)) v1_ (l) ∧ Below w.heap.size w w' := by
  have HR := Aside0.mk hr0_1
  have HC := Aside0.mk hc0_1
  have HT0 := Aside0.mk hr1
  have HM := Aside0.mk hm
  have HL := Aside0.mk hl
  have HQ := Aside0.mk hq
  clear hr0_1 hc0_1 hm hl hr1 hc1 hq
  go_enter Try.func28, Try.ntmps28
  go_wp2_with (first | (go_at_call 11; refine (store_May.calls a0_0 A0_1 c0_1 l0_1 a0_2 true _ (Kd.C_alloc (Kd.C_alloc HR.out _) _) HC.out HM.out).mono ?_; rintro e w1 ⟨rfl, hb⟩; obtain ⟨b1, b2⟩ := two_blocks hb; obtain ⟨⟨k0, k1, k2⟩, f0, f1, f2⟩ := cells3 b1; have B1 := Aside0.mk b1; have B2 := Aside0.mk b2; have HR1 := Aside0.mk (Kd.C_below (Kd.C_alloc (Kd.C_alloc HR.out _) _) hb); have Hb := Aside0.mk (below_step (below_alloc (below_alloc (Below.refl w.heap.size w) _) _) hb); clear b1 b2 hb) | (go_at_call 27; refine (store_own.calls a0_0 A0_1 c0_1 l0_1 a0_2 a0_0 l a0_2 _ HR1.out HC.out HL.out).mono ?_; rintro e w2 ⟨v1, rfl, hR, hb⟩; obtain ⟨A1, c1, rfl⟩ := Kd.R_slice hR; have HC1 := Aside0.mk (Kd.R_reads' hR).2.1; have B3 := Aside0.mk (blk_below B1.out hb); have B4 := Aside0.mk (blk_below B2.out hb); have HR2 := Aside0.mk (Kd.C_below HR1.out hb); have HO2 := Aside0.mk (Kd.R_lower hR Hb.out.size); have Hb2 := Aside0.mk (below_step Hb.out hb); clear HR1 B1 B2 Hb hb hR k0 k1 k2 f0 f1 f2) | ((with_reducible refine gate_dst (N := 20) rfl ?_); refine box_event ?hg (N := 20) ?hd (cs := #[.int .i64 a0_0, .slice A1 l.length c1, .int .i64 a0_2]) (t := 48) ?hr ?_; (case hd => rfl); (case hg => rfl); (case hr => first | (go_simp; done) | (go_simp; rfl)); intro gb hg w3 hbox hb; have b1 := blk_below B3.out hb; have b2 := blk_below B4.out hb; obtain ⟨⟨k0, k1, k2⟩, f0, f1, f2⟩ := cells3 b1; obtain ⟨⟨j0, j1, j2⟩, g0, g1, g2⟩ := cells3 b2; obtain ⟨⟨q0, q1, q2⟩, h0, h1, h2⟩ := cells3 hbox; have B5 := Aside0.mk b1; have B6 := Aside0.mk b2; have B7 := Aside0.mk hbox; have HR3 := Aside0.mk (Kd.C_below HR2.out hb); have HT := Aside0.mk (Kd.C_below HT0.out (below_step Hb2.out hb)); have HO3 := Aside0.mk (Kd.R_below HO2.out hb); have Hb3 := Aside0.mk (below_step Hb2.out hb); have HG := Aside0.mk (hg ▸ Hb2.out.size : w.heap.size ≤ gb); have n0 := Nat.ne_of_gt (hg ▸ blk_lt B3.out : w.heap.size < gb); have n1 := Nat.ne_of_gt (hg ▸ blk_lt B4.out : w.heap.size + 1 < gb); have n2 := n0.symm; have n3 := n1.symm; clear HR2 HO2 B3 B4 Hb2 hb hbox hg b1 b2) | (go_at_call 16; refine (store_Left.calls a0_0 A1 c1 l a0_2 q _ (Kd.R_reads' HO3.out).2.2 HC1.out HQ.out).mono ?_; rintro e w4 ⟨rfl, hb⟩; have b1 := blk_below B5.out hb; have b2 := blk_below B6.out hb; have b3 := blk_below B7.out hb; obtain ⟨⟨k0, k1, k2⟩, f0, f1, f2⟩ := cells3 b1; obtain ⟨⟨j0, j1, j2⟩, g0, g1, g2⟩ := cells3 b2; obtain ⟨⟨q0, q1, q2⟩, h0, h1, h2⟩ := cells3 b3; have HR5 := Aside0.mk (Kd.C_below HR3.out hb); have HO5 := Aside0.mk (Kd.R_below HO3.out hb); have Hb5 := Aside0.mk (below_step Hb3.out hb); have HG5 := Aside0.mk HG.out; have C5 := Aside0.mk b1; have C6 := Aside0.mk b2; have C7 := Aside0.mk b3; clear HR3 HO3 Hb3 B5 B6 B7 b1 b2 b3 hb) | (go_at_call 27; refine (store_own.calls a0_0 A0_1 c0_1 l0_1 a0_2 a0_0 l a0_2 _ HR5.out HC.out HL.out).mono ?_; rintro e w4 ⟨v2, rfl, hR, hb⟩; obtain ⟨A2, c2, rfl⟩ := Kd.R_slice hR; have b2 := blk_below C6.out hb; obtain ⟨⟨u0, u1, u2⟩, o0, o1, o2⟩ := cells3 b2; have B8 := Aside0.mk b2; have HO4 := Aside0.mk (Kd.R_lower hR Hb5.out.size); have Hb4 := Aside0.mk (below_step Hb5.out hb); clear HR5 C5 C6 C7 Hb5 hb hR b2) | go_in)
  refine bodyPost_ret (results_ct rfl _ _ (w.heap.size + 1) 24 #[.int .i64 a0_0, .slice A2 l.length c2, .int .i64 a0_2] (0, 0) _ rfl (blk_put (blk_put (blk_put B8.out 0 _ rfl) 1 _ rfl) 2 _ rfl) Try.underlying24 rfl (by kernel_rfl)) rfl ⟨_, rfl, ?_, ?_⟩
  · refine V_of_R (ok := fun _ => True) ?_
    refine Kd.R_mono (Kd.R_far (Kd.R_far (Kd.R_far (Kd.R_types HO4.out B8.out (by decide)) (fun k hk => hk.2) _) (fun k hk => hk.2) _) (fun k hk => hk.2) _) (fun _ _ => trivial)
  · exact below_set (below_set (below_set Hb4.out (Nat.le_succ _)) (Nat.le_succ _)) (Nat.le_succ _)
set_option maxHeartbeats 400000 in
set_option maxRecDepth 100000 in
theorem do_write_ok (a0_0 : Int) (A0_1 : Option Addr) (c0_1 : Nat) (l0_1 : List Int) (a0_2 : Int) (A2_ : Option Addr) (c2_ : Nat) (l1 : List Int) (a1 : Int) (l : List Int) (q : Int) (w : World) (hr0_1 : Kd.C (Kd.int .u8) w A0_1 l0_1.length l0_1) (hc0_1 : l0_1.length ≤ c0_1) (hr1 : Kd.C (Kd.int .u8) w A2_ l1.length l1) (hc1 : l1.length ≤ c2_) (hm : store_May.f a0_0 l0_1 a0_2 = some true) (hl : store_own.f a0_0 l0_1 a0_2 = some (a0_0, l, a0_2)) (hq : store_Left.f a0_0 l a0_2 = some q)
    (hb : decide (q < (l1.length : Int)) = false) (hs1 : l.length < 70368744177664) (hs2 : l1.length < 70368744177664) :
    Calls Try.prog 28 #[.agg #[.int .i64 a0_0, .slice A0_1 l0_1.length c0_1, .int .i64 a0_2], .func (.func 31) #[] #[], .slice A2_ l1.length c2_, .int .i64 a1] w fun e w' => ∃ v1_ : Value, e = .returned (.tuple #[.agg #[.int .i64 a0_0, v1_, .int .i64 a0_2], .int .i64 (0)]) ∧ Kd.V (Kd.int .u8) 5 w' w.heap.size (fun k_ => (w.heap.size ≤ k_)) v1_ (l ++ l1) ∧ Below w.heap.size w w' := by
  have HR := Aside0.mk hr0_1
  have HC := Aside0.mk hc0_1
  have HT0 := Aside0.mk hr1
  have HM := Aside0.mk hm
  have HL := Aside0.mk hl
  have HQ := Aside0.mk hq
  clear hr0_1 hc0_1 hm hl hr1 hc1 hq
  have HS1 := Aside0.mk hs1
  have HS2 := Aside0.mk hs2
  clear hs1 hs2
  go_enter Try.func28, Try.ntmps28
  go_wp2_with (first | (go_at_call 11; refine (store_May.calls a0_0 A0_1 c0_1 l0_1 a0_2 true _ (Kd.C_alloc (Kd.C_alloc HR.out _) _) HC.out HM.out).mono ?_; rintro e w1 ⟨rfl, hb⟩; obtain ⟨b1, b2⟩ := two_blocks hb; obtain ⟨⟨k0, k1, k2⟩, f0, f1, f2⟩ := cells3 b1; have B1 := Aside0.mk b1; have B2 := Aside0.mk b2; have HR1 := Aside0.mk (Kd.C_below (Kd.C_alloc (Kd.C_alloc HR.out _) _) hb); have Hb := Aside0.mk (below_step (below_alloc (below_alloc (Below.refl w.heap.size w) _) _) hb); clear b1 b2 hb) | (go_at_call 27; refine (store_own.calls a0_0 A0_1 c0_1 l0_1 a0_2 a0_0 l a0_2 _ HR1.out HC.out HL.out).mono ?_; rintro e w2 ⟨v1, rfl, hR, hb⟩; obtain ⟨A1, c1, rfl⟩ := Kd.R_slice hR; have HC1 := Aside0.mk (Kd.R_reads' hR).2.1; have B3 := Aside0.mk (blk_below B1.out hb); have B4 := Aside0.mk (blk_below B2.out hb); have HR2 := Aside0.mk (Kd.C_below HR1.out hb); have HO2 := Aside0.mk (Kd.R_lower hR Hb.out.size); have Hb2 := Aside0.mk (below_step Hb.out hb); clear HR1 B1 B2 Hb hb hR k0 k1 k2 f0 f1 f2) | ((with_reducible refine gate_dst (N := 20) rfl ?_); refine box_event ?hg (N := 20) ?hd (cs := #[.int .i64 a0_0, .slice A1 l.length c1, .int .i64 a0_2]) (t := 48) ?hr ?_; (case hd => rfl); (case hg => rfl); (case hr => first | (go_simp; done) | (go_simp; rfl)); intro gb hg w3 hbox hb; have b1 := blk_below B3.out hb; have b2 := blk_below B4.out hb; obtain ⟨⟨k0, k1, k2⟩, f0, f1, f2⟩ := cells3 b1; obtain ⟨⟨j0, j1, j2⟩, g0, g1, g2⟩ := cells3 b2; obtain ⟨⟨q0, q1, q2⟩, h0, h1, h2⟩ := cells3 hbox; have B5 := Aside0.mk b1; have B6 := Aside0.mk b2; have B7 := Aside0.mk hbox; have HR3 := Aside0.mk (Kd.C_below HR2.out hb); have HT := Aside0.mk (Kd.C_below HT0.out (below_step Hb2.out hb)); have HO3 := Aside0.mk (Kd.R_below HO2.out hb); have Hb3 := Aside0.mk (below_step Hb2.out hb); have HG := Aside0.mk (hg ▸ Hb2.out.size : w.heap.size ≤ gb); have n0 := Nat.ne_of_gt (hg ▸ blk_lt B3.out : w.heap.size < gb); have n1 := Nat.ne_of_gt (hg ▸ blk_lt B4.out : w.heap.size + 1 < gb); have n2 := n0.symm; have n3 := n1.symm; clear HR2 HO2 B3 B4 Hb2 hb hbox hg b1 b2) | (go_at_call 16; refine (store_Left.calls a0_0 A1 c1 l a0_2 q _ (Kd.R_reads' HO3.out).2.2 HC1.out HQ.out).mono ?_; rintro e w4 ⟨rfl, hb⟩; have b1 := blk_below B5.out hb; have b2 := blk_below B6.out hb; have b3 := blk_below B7.out hb; obtain ⟨⟨k0, k1, k2⟩, f0, f1, f2⟩ := cells3 b1; obtain ⟨⟨j0, j1, j2⟩, g0, g1, g2⟩ := cells3 b2; obtain ⟨⟨q0, q1, q2⟩, h0, h1, h2⟩ := cells3 b3; have HR5 := Aside0.mk (Kd.C_below HR3.out hb); have HO5 := Aside0.mk (Kd.R_below HO3.out hb); have Hb5 := Aside0.mk (below_step Hb3.out hb); have HG5 := Aside0.mk HG.out; have C5 := Aside0.mk b1; have C6 := Aside0.mk b2; have C7 := Aside0.mk b3; clear HR3 HO3 Hb3 B5 B6 B7 b1 b2 b3 hb) | (go_at_call 34; refine (concat_two _ _ A1 A2_ c1 c2_ l l1 (heap_alloc_new _ _) (Kd.C_alloc (Kd.R_reads' HO5.out).2.2 _) (Kd.C_alloc (Kd.C_below HT0.out Hb5.out) _) HS1.out HS2.out).mono ?_; rintro e w6 ⟨v6, rfl, hR, hb⟩; obtain ⟨A6, c6, rfl⟩ := Kd.R_slice hR; have b2 := blk_below (blk_alloc C6.out _) hb; have b3 := blk_below (blk_alloc C7.out _) hb; obtain ⟨⟨j0, j1, j2⟩, g0, g1, g2⟩ := cells3 b2; obtain ⟨⟨q0, q1, q2⟩, h0, h1, h2⟩ := cells3 b3; have D6 := Aside0.mk b2; have D7 := Aside0.mk b3; have HO6 := Aside0.mk (Kd.R_lower hR (below_size (below_alloc Hb5.out _))); have Hb6 := Aside0.mk (below_step (below_alloc Hb5.out _) hb); clear C5 C6 C7 HR5 HO5 Hb5 b2 b3 hb hR) | go_in)
  have HO7 := HO6.out
  rw [List.length_append] at HO7
  refine bodyPost_ret (results_ct rfl _ _ (w.heap.size + 1) 24 #[.int .i64 a0_0, .slice A6 (l.length + l1.length) c6, .int .i64 a0_2] (0, 0) _ rfl (blk_put (blk_put (blk_put (blk_far D6.out n3 _) 0 _ rfl) 1 _ rfl) 2 _ rfl) Try.underlying24 rfl (by kernel_rfl)) rfl ⟨_, rfl, ?_, ?_⟩
  · refine V_of_R (ok := fun _ => True) ?_
    refine Kd.R_mono (Kd.R_far (Kd.R_far (Kd.R_far (Kd.R_far (Kd.R_types (Kd.R_types HO7 D6.out (by decide)) D7.out (by decide)) (fun k hk => hk.2) _) (fun k hk => hk.1.2) _) (fun k hk => hk.1.2) _) (fun k hk => hk.1.2) _) (fun _ _ => trivial)
  · exact below_set (below_set (below_set (below_set Hb6.out HG5.out) (Nat.le_succ _)) (Nat.le_succ _)) (Nat.le_succ _)
def store_Write.f (a0_0 : Int) (l0_1 : List Int) (a0_2 : Int) (l1 : List Int) : Option (Int × List Int × Int × Int) :=
  if l0_1.length < 70368744177664 ∧ l1.length < 70368744177664 then (store_May.f a0_0 l0_1 a0_2).bind fun m => (store_Left.f a0_0 l0_1 a0_2).bind fun q => some (if m = true then (if (l1.length : Int) ≤ q then (a0_0, l0_1 ++ l1, a0_2, 0) else (a0_0, l0_1, a0_2, 12)) else (a0_0, l0_1, a0_2, 1)) else none
theorem clone_of {l : List Int} (h : l.length < 140737488355328) : slices_Clone_byte_byte.f l = some l := by
  unfold slices_Clone_byte_byte.f
  rw [if_pos h]
theorem do_write_any (a0_0 : Int) (A0_1 : Option Addr) (c0_1 : Nat) (l0_1 : List Int) (a0_2 : Int) (A2_ : Option Addr) (c2_ : Nat) (l1 : List Int) (a1 : Int) (r1 : Int) (r2 : List Int) (r3 : Int) (r4 : Int) (w : World) (hr0_1 : Kd.C (Kd.int .u8) w A0_1 l0_1.length l0_1) (hc0_1 : l0_1.length ≤ c0_1) (hr1 : Kd.C (Kd.int .u8) w A2_ l1.length l1) (hc1 : l1.length ≤ c2_) (h : store_Write.f a0_0 l0_1 a0_2 l1 = some (r1, r2, r3, r4)) :
    Calls Try.prog 28 #[.agg #[.int .i64 a0_0, .slice A0_1 l0_1.length c0_1, .int .i64 a0_2], .func (.func 31) #[] #[], .slice A2_ l1.length c2_, .int .i64 a1] w fun e w' => ∃ v1_ : Value, e = .returned (.tuple #[.agg #[.int .i64 r1, v1_, .int .i64 r3], .int .i64 r4]) ∧ Kd.V (Kd.int .u8) 5 w' w.heap.size (fun k_ => (w.heap.size ≤ k_)) v1_ r2 ∧ Below w.heap.size w w' := by
  unfold store_Write.f at h
  split at h
  case isFalse => simp at h
  rename_i hs
  obtain ⟨m, hm, h⟩ := Option.bind_eq_some_iff.mp h
  obtain ⟨q, hq, h⟩ := Option.bind_eq_some_iff.mp h
  have ho := own_of_clone (a := a0_0) (c := a0_2) (clone_of (l := l0_1) (by omega))
  have h := Option.some.inj h
  cases m with
  | false =>
    rw [if_neg (by decide)] at h
    simp only [Prod.mk.injEq] at h
    obtain ⟨rfl, rfl, rfl, rfl⟩ := h
    exact do_may_no _ _ a0_0 A0_1 c0_1 l0_1 a0_2 a1 l0_1 w hr0_1 hc0_1 hm ho
  | true =>
    rw [if_pos rfl] at h
    by_cases hb : (l1.length : Int) ≤ q
    · rw [if_pos hb] at h
      simp only [Prod.mk.injEq] at h
      obtain ⟨rfl, rfl, rfl, rfl⟩ := h
      exact do_write_ok a0_0 A0_1 c0_1 l0_1 a0_2 A2_ c2_ l1 a1 l0_1 q w hr0_1 hc0_1 hr1 hc1 hm ho hq (by simpa using hb) hs.1 hs.2
    · rw [if_neg hb] at h
      simp only [Prod.mk.injEq] at h
      obtain ⟨rfl, rfl, rfl, rfl⟩ := h
      exact do_write_full a0_0 A0_1 c0_1 l0_1 a0_2 A2_ c2_ l1 a1 l0_1 q w hr0_1 hc0_1 hr1 hc1 hm ho hq (by simpa using hb)
set_option maxHeartbeats 400000 in
set_option maxRecDepth 100000 in
theorem store_Write.calls (a0_0 : Int) (A0_1 : Option Addr) (c0_1 : Nat) (l0_1 : List Int) (a0_2 : Int) (A1 : Option Addr) (c1 : Nat) (l1 : List Int) (r1 : Int) (r2 : List Int) (r3 : Int) (r4 : Int) (w : World) (hr0_1 : Kd.C (Kd.int .u8) w A0_1 l0_1.length l0_1) (hc0_1 : l0_1.length ≤ c0_1) (hr1 : Kd.C (Kd.int .u8) w A1 l1.length l1) (hc1 : l1.length ≤ c1) (h : store_Write.f a0_0 l0_1 a0_2 l1 = some (r1, r2, r3, r4)) :
    Calls Try.prog 15 #[.agg #[.int .i64 a0_0, .slice A0_1 l0_1.length c0_1, .int .i64 a0_2], .slice A1 l1.length c1] w fun e w' => ∃ v1_ : Value, e = .returned (.tuple #[.agg #[.int .i64 r1, v1_, .int .i64 r3], .int .i64 r4]) ∧ Kd.V (Kd.int .u8) 5 w' w.heap.size (fun k_ => (w.heap.size ≤ k_)) v1_ r2 ∧ Below w.heap.size w w' := by
  have HR := Aside0.mk hr0_1
  have HC := Aside0.mk hc0_1
  have H := Aside0.mk h
  have HR9 := Aside0.mk hr1
  have HC9 := Aside0.mk hc1
  clear hr0_1 hc0_1 h hr1 hc1
  go_enter Try.func15, Try.ntmps15
  go_wp2_with (first | (go_at_call 28; refine (do_write_any a0_0 A0_1 c0_1 l0_1 a0_2 A1 c1 l1 0 r1 r2 r3 r4 _ (Kd.C_alloc (Kd.C_alloc HR.out _) _) HC.out (Kd.C_alloc (Kd.C_alloc HR9.out _) _) HC9.out H.out).mono ?_; rintro e w2 ⟨v1, rfl, hV, hb⟩; obtain ⟨A7, c7, rfl⟩ := Kd.V_slice hV; obtain ⟨b1, b2⟩ := two_blocks hb; obtain ⟨⟨j0, j1, j2⟩, g0, g1, g2⟩ := cells3 b2; have B2 := Aside0.mk b2; have Hb := Aside0.mk (below_step (below_alloc (below_alloc (Below.refl w.heap.size w) _) _) hb); have HV := Aside0.mk hV; clear b1 b2 hb hV))
  refine bodyPost_ret (results_ct rfl _ _ (w.heap.size + 1) 24 #[.int .i64 r1, .slice A7 r2.length c7, .int .i64 r3] (0, 0) _ rfl (blk_put (blk_put (blk_put B2.out 0 _ rfl) 1 _ rfl) 2 _ rfl) Try.underlying24 rfl (by kernel_rfl)) rfl ⟨_, rfl, ?_, ?_⟩
  · have hk : ∀ k, ((w.alloc (.cells #[.int .i64 a0_0, .slice A0_1 l0_1.length c0_1, .int .i64 a0_2] 24)).alloc (.cells #[.int .i64 0, .slice none 0 0, .int .i64 0] 24)).heap.size ≤ k → w.heap.size + 2 ≤ k := by
      intro k hk
      rw [alloc_size, alloc_size] at hk
      exact hk
    refine Kd.V_mono (Kd.V_far (Kd.V_far (Kd.V_far (Kd.V_mono HV.out hk) (fun k (hk : _ ≤ k) => ?_) _) (fun k (hk : _ ≤ k) => ?_) _) (fun k (hk : _ ≤ k) => ?_) _) (fun k hk => ?_)
    all_goals first | omega | (show k ≠ w.heap.size + 1; omega)
  · exact below_set (below_set (below_set Hb.out (Nat.le_succ _)) (Nat.le_succ _)) (Nat.le_succ _)
end Go.Proofs.Ytlldfihhdbbicaa.P
