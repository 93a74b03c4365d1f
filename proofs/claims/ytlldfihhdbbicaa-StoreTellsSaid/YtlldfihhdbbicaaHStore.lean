/- By hand: store.Cut and store.Sync (through store.do, with a method as a value). -/
import Derived.Test.YtlldfihhdbbicaaHClone
namespace Go.Proofs.Ytlldfihhdbbicaa.P
open Go.RowKit Go.Proofs.YtlldfihhdbbicaaW.PrintWords Go.Proofs.YtlldfihhdbbicaaW.PrintLast Go.Proofs.YtlldfihhdbbicaaW.PrintMore
set_option linter.unusedVariables false
set_option linter.unusedSimpArgs false
def store_Cut.f (a0_0 : Int) (l0_1 : List Int) (a0_2 : Int) (a1 : Int) : Option (Int × List Int × Int × Int) :=
  (store_May.f a0_0 l0_1 a0_2).bind fun m => (slices_Clone_byte_byte.f l0_1).bind fun l => some (if m = true ∧ 0 ≤ a1 ∧ a1 ≤ (l0_1.length : Int) then (a0_0, l.take a1.toNat, a1, 0) else (a0_0, l, a0_2, 1))
theorem V_of_R {α : Type} {d : Kd α} {e W base b ok A n c} {xs : List α} (h : Kd.R d e W base ok (.slice A n c) xs) : Kd.V d e W b (fun k => base ≤ k) (.slice A n c) xs := by
  have h1 := Kd.R_reads' h
  obtain ⟨hn, hc, _⟩ := h1
  subst hn
  refine Kd.V_mk hc (fun W' hW => ?_)
  have h2 := Kd.R_reads' (Kd.R_step (Kd.R_bound h) (fun k hk hlt => hW k hk.2.1 hlt))
  exact h2.2.2
theorem V_take3 {α : Type} {d : Kd α} {e W base b ok A n c} {xs : List α} (h : Kd.R d e W base ok (.slice A n c) xs) (m : Nat) (hm : m ≤ xs.length) : Kd.V d e W b (fun k => base ≤ k) (.slice A m m) (xs.take m) := by
  obtain ⟨hn, hc, hF⟩ := Kd.V_at (V_of_R (b := b) h)
  have hl : (xs.take m).length = m := by simp; omega
  have := Kd.V_mk (e := e) (base := b) (c := m) (Nat.le_of_eq hl) (Kd.F_take hF hm)
  rwa [hl] at this
theorem alloc_size (w : World) (o : Obj) : (w.alloc o).heap.size = w.heap.size + 1 := Array.size_push _
set_option maxHeartbeats 400000 in
set_option maxRecDepth 100000 in
theorem do_may_no (f : Value) (b : Value) (a0_0 : Int) (A0_1 : Option Addr) (c0_1 : Nat) (l0_1 : List Int) (a0_2 : Int) (a1 : Int) (l : List Int) (w : World) (hr0_1 : Kd.C (Kd.int .u8) w A0_1 l0_1.length l0_1) (hc0_1 : l0_1.length ≤ c0_1) (hm : store_May.f a0_0 l0_1 a0_2 = some false) (hl : store_own.f a0_0 l0_1 a0_2 = some (a0_0, l, a0_2)) :
    Calls Try.prog 28 #[.agg #[.int .i64 a0_0, .slice A0_1 l0_1.length c0_1, .int .i64 a0_2], f, b, .int .i64 a1] w fun e w' => ∃ v1_ : Value, e = .returned (.tuple #[.agg #[.int .i64 a0_0, v1_, .int .i64 a0_2], .int .i64 1]) ∧ Kd.V (Kd.int .u8) 5 w' w.heap.size (fun k_ => (w.heap.size ≤ k_)) v1_ l ∧ Below w.heap.size w w' := by
  have HR := Aside0.mk hr0_1
  have HC := Aside0.mk hc0_1
  have HM := Aside0.mk hm
  have HL := Aside0.mk hl
  clear hr0_1 hc0_1 hm hl
  go_enter Try.func28, Try.ntmps28
  go_wp2_with (first | (go_at_call 11; refine (store_May.calls a0_0 A0_1 c0_1 l0_1 a0_2 false _ (Kd.C_alloc (Kd.C_alloc HR.out _) _) HC.out HM.out).mono ?_; rintro e w1 ⟨rfl, hb⟩; obtain ⟨b1, b2⟩ := two_blocks hb; obtain ⟨⟨k0, k1, k2⟩, f0, f1, f2⟩ := cells3 b1; have B1 := Aside0.mk b1; have B2 := Aside0.mk b2; have HR1 := Aside0.mk (Kd.C_below (Kd.C_alloc (Kd.C_alloc HR.out _) _) hb); have Hb := Aside0.mk (below_step (below_alloc (below_alloc (Below.refl w.heap.size w) _) _) hb); clear b1 b2 hb) | (go_at_call 27; refine (store_own.calls a0_0 A0_1 c0_1 l0_1 a0_2 a0_0 l a0_2 _ HR1.out HC.out HL.out).mono ?_; rintro e w2 ⟨v1, rfl, hR, hb⟩; obtain ⟨A1, c1, rfl⟩ := Kd.R_slice hR; have b2 := blk_below B2.out hb; obtain ⟨⟨j0, j1, j2⟩, g0, g1, g2⟩ := cells3 b2; have B3 := Aside0.mk b2; have Hb2 := Aside0.mk (below_step Hb.out hb); have HR2 := Aside0.mk hR; have HS := Aside0.mk Hb.out.size; have HL2 := Aside0.mk (blk_lt B2.out); clear b2 hb hR))
  refine bodyPost_ret (results_ct rfl _ _ (w.heap.size + 1) 24 #[.int .i64 a0_0, .slice A1 l.length c1, .int .i64 a0_2] (0, 0) _ rfl (blk_put (blk_put (blk_put B3.out 0 _ rfl) 1 _ rfl) 2 _ rfl) Try.underlying24 rfl (by kernel_rfl)) rfl ⟨_, rfl, ?_, ?_⟩
  · refine V_of_R (ok := fun _ => True) ?_
    refine Kd.R_mono (Kd.R_far (Kd.R_far (Kd.R_far (Kd.R_types (Kd.R_lower HR2.out HS.out) B3.out (by decide)) (fun k hk => hk.2) _) (fun k hk => hk.2) _) (fun k hk => hk.2) _) (fun _ _ => trivial)
  · exact below_set (below_set (below_set Hb2.out (Nat.le_succ _)) (Nat.le_succ _)) (Nat.le_succ _)
set_option maxHeartbeats 400000 in
set_option maxRecDepth 100000 in
theorem do_cut_no (b : Value) (a0_0 : Int) (A0_1 : Option Addr) (c0_1 : Nat) (l0_1 : List Int) (a0_2 : Int) (a1 : Int) (l : List Int) (w : World) (hr0_1 : Kd.C (Kd.int .u8) w A0_1 l0_1.length l0_1) (hc0_1 : l0_1.length ≤ c0_1) (hm : store_May.f a0_0 l0_1 a0_2 = some true) (hl : store_own.f a0_0 l0_1 a0_2 = some (a0_0, l, a0_2))
    (hlt : (decide (a1 < 0) = true) ∨ (decide (a1 < 0) = false ∧ decide ((l.length : Int) < a1) = true)) :
    Calls Try.prog 28 #[.agg #[.int .i64 a0_0, .slice A0_1 l0_1.length c0_1, .int .i64 a0_2], .func (.func 32) #[] #[], b, .int .i64 a1] w fun e w' => ∃ v1_ : Value, e = .returned (.tuple #[.agg #[.int .i64 a0_0, v1_, .int .i64 (a0_2)], .int .i64 (1)]) ∧ Kd.V (Kd.int .u8) 5 w' w.heap.size (fun k_ => (w.heap.size ≤ k_)) v1_ (l) ∧ Below w.heap.size w w' := by
  have HR := Aside0.mk hr0_1
  have HC := Aside0.mk hc0_1
  have HM := Aside0.mk hm
  have HL := Aside0.mk hl
  clear hr0_1 hc0_1 hm hl
  rcases hlt with hlt | ⟨hlt, hlt2⟩
  all_goals
  go_enter Try.func28, Try.ntmps28
  go_wp2_with (first | (go_at_call 11; refine (store_May.calls a0_0 A0_1 c0_1 l0_1 a0_2 true _ (Kd.C_alloc (Kd.C_alloc HR.out _) _) HC.out HM.out).mono ?_; rintro e w1 ⟨rfl, hb⟩; obtain ⟨b1, b2⟩ := two_blocks hb; obtain ⟨⟨k0, k1, k2⟩, f0, f1, f2⟩ := cells3 b1; have B1 := Aside0.mk b1; have B2 := Aside0.mk b2; have HR1 := Aside0.mk (Kd.C_below (Kd.C_alloc (Kd.C_alloc HR.out _) _) hb); have Hb := Aside0.mk (below_step (below_alloc (below_alloc (Below.refl w.heap.size w) _) _) hb); clear b1 b2 hb) | (go_at_call 27; refine (store_own.calls a0_0 A0_1 c0_1 l0_1 a0_2 a0_0 l a0_2 _ HR1.out HC.out HL.out).mono ?_; rintro e w2 ⟨v1, rfl, hR, hb⟩; obtain ⟨A1, c1, rfl⟩ := Kd.R_slice hR; have B3 := Aside0.mk (blk_below B1.out hb); have B4 := Aside0.mk (blk_below B2.out hb); have HR2 := Aside0.mk (Kd.C_below HR1.out hb); have HO2 := Aside0.mk (Kd.R_lower hR Hb.out.size); have Hb2 := Aside0.mk (below_step Hb.out hb); clear HR1 B1 B2 Hb hb hR k0 k1 k2 f0 f1 f2) | ((with_reducible refine gate_dst (N := 20) rfl ?_); refine box_event ?hg (N := 20) ?hd (cs := #[.int .i64 a0_0, .slice A1 l.length c1, .int .i64 a0_2]) (t := 48) ?hr ?_; (case hd => rfl); (case hg => rfl); (case hr => first | (go_simp; done) | (go_simp; rfl)); intro gb hg w3 hbox hb; have b1 := blk_below B3.out hb; have b2 := blk_below B4.out hb; obtain ⟨⟨k0, k1, k2⟩, f0, f1, f2⟩ := cells3 b1; obtain ⟨⟨j0, j1, j2⟩, g0, g1, g2⟩ := cells3 b2; obtain ⟨⟨q0, q1, q2⟩, h0, h1, h2⟩ := cells3 hbox; have B5 := Aside0.mk b1; have B6 := Aside0.mk b2; have B7 := Aside0.mk hbox; have HR3 := Aside0.mk (Kd.C_below HR2.out hb); have HO3 := Aside0.mk (Kd.R_below HO2.out hb); have Hb3 := Aside0.mk (below_step Hb2.out hb); have HG := Aside0.mk (hg ▸ Hb2.out.size : w.heap.size ≤ gb); have n0 := Nat.ne_of_gt (hg ▸ blk_lt B3.out : w.heap.size < gb); have n1 := Nat.ne_of_gt (hg ▸ blk_lt B4.out : w.heap.size + 1 < gb); have n2 := n0.symm; have n3 := n1.symm; clear HR2 HO2 B3 B4 Hb2 hb hbox hg b1 b2) | (go_at_call 27; refine (store_own.calls a0_0 A0_1 c0_1 l0_1 a0_2 a0_0 l a0_2 _ HR3.out HC.out HL.out).mono ?_; rintro e w4 ⟨v2, rfl, hR, hb⟩; obtain ⟨A2, c2, rfl⟩ := Kd.R_slice hR; have b2 := blk_below B6.out hb; obtain ⟨⟨u0, u1, u2⟩, o0, o1, o2⟩ := cells3 b2; have B8 := Aside0.mk b2; have HO4 := Aside0.mk (Kd.R_lower hR Hb3.out.size); have Hb4 := Aside0.mk (below_step Hb3.out hb); clear HR3 B5 B6 B7 Hb3 hb hR b2) | go_in)
  refine bodyPost_ret (results_ct rfl _ _ (w.heap.size + 1) 24 #[.int .i64 a0_0, .slice A2 l.length c2, .int .i64 a0_2] (0, 0) _ rfl (blk_put (blk_put (blk_put B8.out 0 _ rfl) 1 _ rfl) 2 _ rfl) Try.underlying24 rfl (by kernel_rfl)) rfl ⟨_, rfl, ?_, ?_⟩
  · refine V_of_R (ok := fun _ => True) ?_
    refine Kd.R_mono (Kd.R_far (Kd.R_far (Kd.R_far (Kd.R_types HO4.out B8.out (by decide)) (fun k hk => hk.2) _) (fun k hk => hk.2) _) (fun k hk => hk.2) _) (fun _ _ => trivial)
  · exact below_set (below_set (below_set Hb4.out (Nat.le_succ _)) (Nat.le_succ _)) (Nat.le_succ _)
set_option maxHeartbeats 400000 in
set_option maxRecDepth 100000 in
theorem do_sync (b : Value) (a0_0 : Int) (A0_1 : Option Addr) (c0_1 : Nat) (l0_1 : List Int) (a0_2 : Int) (a1 : Int) (l : List Int) (w : World) (hr0_1 : Kd.C (Kd.int .u8) w A0_1 l0_1.length l0_1) (hc0_1 : l0_1.length ≤ c0_1) (hm : store_May.f a0_0 l0_1 a0_2 = some true) (hl : store_own.f a0_0 l0_1 a0_2 = some (a0_0, l, a0_2)) :
    Calls Try.prog 28 #[.agg #[.int .i64 a0_0, .slice A0_1 l0_1.length c0_1, .int .i64 a0_2], .func (.func 29) #[] #[], b, .int .i64 a1] w fun e w' => ∃ v1_ : Value, e = .returned (.tuple #[.agg #[.int .i64 a0_0, v1_, .int .i64 ((l.length : Int))], .int .i64 (0)]) ∧ Kd.V (Kd.int .u8) 5 w' w.heap.size (fun k_ => (w.heap.size ≤ k_)) v1_ (l) ∧ Below w.heap.size w w' := by
  have HR := Aside0.mk hr0_1
  have HC := Aside0.mk hc0_1
  have HM := Aside0.mk hm
  have HL := Aside0.mk hl
  clear hr0_1 hc0_1 hm hl
  go_enter Try.func28, Try.ntmps28
  go_wp2_with (first | (go_at_call 11; refine (store_May.calls a0_0 A0_1 c0_1 l0_1 a0_2 true _ (Kd.C_alloc (Kd.C_alloc HR.out _) _) HC.out HM.out).mono ?_; rintro e w1 ⟨rfl, hb⟩; obtain ⟨b1, b2⟩ := two_blocks hb; obtain ⟨⟨k0, k1, k2⟩, f0, f1, f2⟩ := cells3 b1; have B1 := Aside0.mk b1; have B2 := Aside0.mk b2; have HR1 := Aside0.mk (Kd.C_below (Kd.C_alloc (Kd.C_alloc HR.out _) _) hb); have Hb := Aside0.mk (below_step (below_alloc (below_alloc (Below.refl w.heap.size w) _) _) hb); clear b1 b2 hb) | (go_at_call 27; refine (store_own.calls a0_0 A0_1 c0_1 l0_1 a0_2 a0_0 l a0_2 _ HR1.out HC.out HL.out).mono ?_; rintro e w2 ⟨v1, rfl, hR, hb⟩; obtain ⟨A1, c1, rfl⟩ := Kd.R_slice hR; have B3 := Aside0.mk (blk_below B1.out hb); have B4 := Aside0.mk (blk_below B2.out hb); have HR2 := Aside0.mk (Kd.C_below HR1.out hb); have HO2 := Aside0.mk (Kd.R_lower hR Hb.out.size); have Hb2 := Aside0.mk (below_step Hb.out hb); clear HR1 B1 B2 Hb hb hR k0 k1 k2 f0 f1 f2) | ((with_reducible refine gate_dst (N := 20) rfl ?_); refine box_event ?hg (N := 20) ?hd (cs := #[.int .i64 a0_0, .slice A1 l.length c1, .int .i64 a0_2]) (t := 48) ?hr ?_; (case hd => rfl); (case hg => rfl); (case hr => first | (go_simp; done) | (go_simp; rfl)); intro gb hg w3 hbox hb; have b1 := blk_below B3.out hb; have b2 := blk_below B4.out hb; obtain ⟨⟨k0, k1, k2⟩, f0, f1, f2⟩ := cells3 b1; obtain ⟨⟨j0, j1, j2⟩, g0, g1, g2⟩ := cells3 b2; obtain ⟨⟨q0, q1, q2⟩, h0, h1, h2⟩ := cells3 hbox; have B5 := Aside0.mk b1; have B6 := Aside0.mk b2; have B7 := Aside0.mk hbox; have HR3 := Aside0.mk (Kd.C_below HR2.out hb); have HO3 := Aside0.mk (Kd.R_below HO2.out hb); have Hb3 := Aside0.mk (below_step Hb2.out hb); have HG := Aside0.mk (hg ▸ Hb2.out.size : w.heap.size ≤ gb); have n0 := Nat.ne_of_gt (hg ▸ blk_lt B3.out : w.heap.size < gb); have n1 := Nat.ne_of_gt (hg ▸ blk_lt B4.out : w.heap.size + 1 < gb); have n2 := n0.symm; have n3 := n1.symm; clear HR2 HO2 B3 B4 Hb2 hb hbox hg b1 b2) | (go_at_call 27; refine (store_own.calls a0_0 A0_1 c0_1 l0_1 a0_2 a0_0 l a0_2 _ HR3.out HC.out HL.out).mono ?_; rintro e w4 ⟨v2, rfl, hR, hb⟩; obtain ⟨A2, c2, rfl⟩ := Kd.R_slice hR; have b2 := blk_below B6.out hb; obtain ⟨⟨u0, u1, u2⟩, o0, o1, o2⟩ := cells3 b2; have B8 := Aside0.mk b2; have HO4 := Aside0.mk (Kd.R_lower hR Hb3.out.size); have Hb4 := Aside0.mk (below_step Hb3.out hb); clear HR3 B5 B6 B7 Hb3 hb hR b2) | go_in)
  refine bodyPost_ret (results_ct rfl _ _ (w.heap.size + 1) 24 #[.int .i64 a0_0, .slice A1 l.length c1, .int .i64 (l.length : Int)] (0, 0) _ rfl (blk_put (blk_put (blk_put (blk_far B6.out n3 _) 0 _ rfl) 1 _ rfl) 2 _ rfl) Try.underlying24 rfl (by kernel_rfl)) rfl ⟨_, rfl, ?_, ?_⟩
  · refine V_of_R (ok := fun _ => True) ?_
    refine Kd.R_mono (Kd.R_far (Kd.R_far (Kd.R_far (Kd.R_far (Kd.R_types (Kd.R_types HO3.out B6.out (by decide)) B7.out (by decide)) (fun k hk => hk.2) _) (fun k hk => hk.1.2) _) (fun k hk => hk.1.2) _) (fun k hk => hk.1.2) _) (fun _ _ => trivial)
  · exact below_set (below_set (below_set (below_set Hb3.out HG.out) (Nat.le_succ _)) (Nat.le_succ _)) (Nat.le_succ _)
set_option maxHeartbeats 400000 in
set_option maxRecDepth 100000 in
theorem do_cut (b : Value) (a0_0 : Int) (A0_1 : Option Addr) (c0_1 : Nat) (l0_1 : List Int) (a0_2 : Int) (a1 : Int) (l : List Int) (w : World) (hr0_1 : Kd.C (Kd.int .u8) w A0_1 l0_1.length l0_1) (hc0_1 : l0_1.length ≤ c0_1) (hm : store_May.f a0_0 l0_1 a0_2 = some true) (hl : store_own.f a0_0 l0_1 a0_2 = some (a0_0, l, a0_2))
    (h0 : 0 ≤ a1) (h1 : a1 ≤ (l.length : Int)) :
    Calls Try.prog 28 #[.agg #[.int .i64 a0_0, .slice A0_1 l0_1.length c0_1, .int .i64 a0_2], .func (.func 32) #[] #[], b, .int .i64 a1] w fun e w' => ∃ v1_ : Value, e = .returned (.tuple #[.agg #[.int .i64 a0_0, v1_, .int .i64 (a1)], .int .i64 (0)]) ∧ Kd.V (Kd.int .u8) 5 w' w.heap.size (fun k_ => (w.heap.size ≤ k_)) v1_ (l.take a1.toNat) ∧ Below w.heap.size w w' := by
  have HR := Aside0.mk hr0_1
  have HC := Aside0.mk hc0_1
  have HM := Aside0.mk hm
  have HL := Aside0.mk hl
  clear hr0_1 hc0_1 hm hl
  have e0 : decide (a1 < 0) = false := by simpa using h0
  have e1 : decide ((l.length : Int) < a1) = false := by simpa using h1
  go_enter Try.func28, Try.ntmps28
  go_wp2_with (first | (go_at_call 11; refine (store_May.calls a0_0 A0_1 c0_1 l0_1 a0_2 true _ (Kd.C_alloc (Kd.C_alloc HR.out _) _) HC.out HM.out).mono ?_; rintro e w1 ⟨rfl, hb⟩; obtain ⟨b1, b2⟩ := two_blocks hb; obtain ⟨⟨k0, k1, k2⟩, f0, f1, f2⟩ := cells3 b1; have B1 := Aside0.mk b1; have B2 := Aside0.mk b2; have HR1 := Aside0.mk (Kd.C_below (Kd.C_alloc (Kd.C_alloc HR.out _) _) hb); have Hb := Aside0.mk (below_step (below_alloc (below_alloc (Below.refl w.heap.size w) _) _) hb); clear b1 b2 hb) | (go_at_call 27; refine (store_own.calls a0_0 A0_1 c0_1 l0_1 a0_2 a0_0 l a0_2 _ HR1.out HC.out HL.out).mono ?_; rintro e w2 ⟨v1, rfl, hR, hb⟩; obtain ⟨A1, c1, rfl⟩ := Kd.R_slice hR; have e2 : a1 ≤ (c1 : Int) := (by have := (Kd.R_reads' hR).2.1; omega); have B3 := Aside0.mk (blk_below B1.out hb); have B4 := Aside0.mk (blk_below B2.out hb); have HR2 := Aside0.mk (Kd.C_below HR1.out hb); have HO2 := Aside0.mk (Kd.R_lower hR Hb.out.size); have Hb2 := Aside0.mk (below_step Hb.out hb); clear HR1 B1 B2 Hb hb hR k0 k1 k2 f0 f1 f2) | ((with_reducible refine gate_dst (N := 20) rfl ?_); refine box_event ?hg (N := 20) ?hd (cs := #[.int .i64 a0_0, .slice A1 l.length c1, .int .i64 a0_2]) (t := 48) ?hr ?_; (case hd => rfl); (case hg => rfl); (case hr => first | (go_simp; done) | (go_simp; rfl)); intro gb hg w3 hbox hb; have b1 := blk_below B3.out hb; have b2 := blk_below B4.out hb; obtain ⟨⟨k0, k1, k2⟩, f0, f1, f2⟩ := cells3 b1; obtain ⟨⟨j0, j1, j2⟩, g0, g1, g2⟩ := cells3 b2; obtain ⟨⟨q0, q1, q2⟩, h0, h1, h2⟩ := cells3 hbox; have B5 := Aside0.mk b1; have B6 := Aside0.mk b2; have B7 := Aside0.mk hbox; have HR3 := Aside0.mk (Kd.C_below HR2.out hb); have HO3 := Aside0.mk (Kd.R_below HO2.out hb); have Hb3 := Aside0.mk (below_step Hb2.out hb); have HG := Aside0.mk (hg ▸ Hb2.out.size : w.heap.size ≤ gb); have n0 := Nat.ne_of_gt (hg ▸ blk_lt B3.out : w.heap.size < gb); have n1 := Nat.ne_of_gt (hg ▸ blk_lt B4.out : w.heap.size + 1 < gb); have n2 := n0.symm; have n3 := n1.symm; clear HR2 HO2 B3 B4 Hb2 hb hbox hg b1 b2) | (go_at_call 27; refine (store_own.calls a0_0 A0_1 c0_1 l0_1 a0_2 a0_0 l a0_2 _ HR3.out HC.out HL.out).mono ?_; rintro e w4 ⟨v2, rfl, hR, hb⟩; obtain ⟨A2, c2, rfl⟩ := Kd.R_slice hR; have b2 := blk_below B6.out hb; obtain ⟨⟨u0, u1, u2⟩, o0, o1, o2⟩ := cells3 b2; have B8 := Aside0.mk b2; have HO4 := Aside0.mk (Kd.R_lower hR Hb3.out.size); have Hb4 := Aside0.mk (below_step Hb3.out hb); clear HR3 B5 B6 B7 Hb3 hb hR b2) | go_in)
  refine bodyPost_ret (results_ct rfl _ _ (w.heap.size + 1) 24 #[.int .i64 a0_0, .slice A1 a1.toNat a1.toNat, .int .i64 a1] (0, 0) _ rfl (blk_put (blk_put (blk_put (blk_far (blk_far B6.out n3 _) n3 _) 0 _ rfl) 1 _ rfl) 2 _ rfl) Try.underlying24 rfl (by kernel_rfl)) rfl ⟨_, rfl, ?_, ?_⟩
  · refine V_take3 (ok := fun _ => True) (n := l.length) (c := c1) ?_ _ (by omega)
    refine Kd.R_mono (Kd.R_far (Kd.R_far (Kd.R_far (Kd.R_far (Kd.R_far (Kd.R_types (Kd.R_types HO3.out B6.out (by decide)) B7.out (by decide)) (fun k hk => hk.2) _) (fun k hk => hk.2) _) (fun k hk => hk.1.2) _) (fun k hk => hk.1.2) _) (fun k hk => hk.1.2) _) (fun _ _ => trivial)
  · exact below_set (below_set (below_set (below_set (below_set Hb3.out HG.out) HG.out) (Nat.le_succ _)) (Nat.le_succ _)) (Nat.le_succ _)
def store_Sync.f (a0_0 : Int) (l0_1 : List Int) (a0_2 : Int) : Option (Int × List Int × Int × Int) :=
  (store_May.f a0_0 l0_1 a0_2).bind fun m => (slices_Clone_byte_byte.f l0_1).bind fun l => some (if m = true then (a0_0, l, (l0_1.length : Int), 0) else (a0_0, l, a0_2, 1))
theorem clone_same {l r : List Int} (h : slices_Clone_byte_byte.f l = some r) : r = l := by
  unfold slices_Clone_byte_byte.f at h
  split at h
  · exact (Option.some.inj h).symm
  · simp at h
theorem own_of_clone {a : Int} {l r : List Int} {c : Int} (h : slices_Clone_byte_byte.f l = some r) : store_own.f a l c = some (a, r, c) := by
  unfold store_own.f
  rw [h]; rfl
theorem do_cut_any (b : Value) (a0_0 : Int) (A0_1 : Option Addr) (c0_1 : Nat) (l0_1 : List Int) (a0_2 : Int) (a1 : Int) (r1 : Int) (r2 : List Int) (r3 : Int) (r4 : Int) (w : World) (hr0_1 : Kd.C (Kd.int .u8) w A0_1 l0_1.length l0_1) (hc0_1 : l0_1.length ≤ c0_1) (h : store_Cut.f a0_0 l0_1 a0_2 a1 = some (r1, r2, r3, r4)) :
    Calls Try.prog 28 #[.agg #[.int .i64 a0_0, .slice A0_1 l0_1.length c0_1, .int .i64 a0_2], .func (.func 32) #[] #[], b, .int .i64 a1] w fun e w' => ∃ v1_ : Value, e = .returned (.tuple #[.agg #[.int .i64 r1, v1_, .int .i64 r3], .int .i64 r4]) ∧ Kd.V (Kd.int .u8) 5 w' w.heap.size (fun k_ => (w.heap.size ≤ k_)) v1_ r2 ∧ Below w.heap.size w w' := by
  unfold store_Cut.f at h
  obtain ⟨m, hm, h⟩ := Option.bind_eq_some_iff.mp h
  obtain ⟨l, hl, h⟩ := Option.bind_eq_some_iff.mp h
  have hs := clone_same hl
  have ho := own_of_clone (a := a0_0) (c := a0_2) hl
  have h := Option.some.inj h
  by_cases hc : m = true ∧ 0 ≤ a1 ∧ a1 ≤ (l0_1.length : Int)
  · obtain ⟨rfl, h0, h1⟩ := hc
    rw [if_pos ⟨rfl, h0, h1⟩] at h
    simp only [Prod.mk.injEq] at h
    obtain ⟨rfl, rfl, rfl, rfl⟩ := h
    exact do_cut b a0_0 A0_1 c0_1 l0_1 a0_2 a1 l w hr0_1 hc0_1 hm ho h0 (by rw [hs]; exact h1)
  · rw [if_neg hc] at h
    simp only [Prod.mk.injEq] at h
    obtain ⟨rfl, rfl, rfl, rfl⟩ := h
    cases m with
    | false => exact do_may_no _ b a0_0 A0_1 c0_1 l0_1 a0_2 a1 l w hr0_1 hc0_1 hm ho
    | true =>
      refine do_cut_no b a0_0 A0_1 c0_1 l0_1 a0_2 a1 l w hr0_1 hc0_1 hm ho ?_
      by_cases h0 : a1 < 0
      · exact Or.inl (by simpa using h0)
      · refine Or.inr ⟨by simpa using h0, ?_⟩
        have : (l0_1.length : Int) < a1 := by
          by_cases h1 : a1 ≤ (l0_1.length : Int)
          · exact absurd ⟨rfl, by omega, h1⟩ hc
          · omega
        rw [hs]
        simpa using this
theorem do_sync_any (b : Value) (a0_0 : Int) (A0_1 : Option Addr) (c0_1 : Nat) (l0_1 : List Int) (a0_2 : Int) (a1 : Int) (r1 : Int) (r2 : List Int) (r3 : Int) (r4 : Int) (w : World) (hr0_1 : Kd.C (Kd.int .u8) w A0_1 l0_1.length l0_1) (hc0_1 : l0_1.length ≤ c0_1) (h : store_Sync.f a0_0 l0_1 a0_2 = some (r1, r2, r3, r4)) :
    Calls Try.prog 28 #[.agg #[.int .i64 a0_0, .slice A0_1 l0_1.length c0_1, .int .i64 a0_2], .func (.func 29) #[] #[], b, .int .i64 a1] w fun e w' => ∃ v1_ : Value, e = .returned (.tuple #[.agg #[.int .i64 r1, v1_, .int .i64 r3], .int .i64 r4]) ∧ Kd.V (Kd.int .u8) 5 w' w.heap.size (fun k_ => (w.heap.size ≤ k_)) v1_ r2 ∧ Below w.heap.size w w' := by
  unfold store_Sync.f at h
  obtain ⟨m, hm, h⟩ := Option.bind_eq_some_iff.mp h
  obtain ⟨l, hl, h⟩ := Option.bind_eq_some_iff.mp h
  have hs := clone_same hl
  have ho := own_of_clone (a := a0_0) (c := a0_2) hl
  have h := Option.some.inj h
  cases m with
  | true =>
    rw [if_pos rfl] at h
    simp only [Prod.mk.injEq] at h
    obtain ⟨rfl, rfl, rfl, rfl⟩ := h
    have := do_sync b a0_0 A0_1 c0_1 l0_1 a0_2 a1 l w hr0_1 hc0_1 hm ho
    rwa [show (l.length : Int) = (l0_1.length : Int) by rw [hs]] at this
  | false =>
    rw [if_neg (by decide)] at h
    simp only [Prod.mk.injEq] at h
    obtain ⟨rfl, rfl, rfl, rfl⟩ := h
    exact do_may_no _ b a0_0 A0_1 c0_1 l0_1 a0_2 a1 l w hr0_1 hc0_1 hm ho
set_option maxHeartbeats 400000 in
set_option maxRecDepth 100000 in
theorem store_Cut.calls (a0_0 : Int) (A0_1 : Option Addr) (c0_1 : Nat) (l0_1 : List Int) (a0_2 : Int) (a1 : Int) (r1 : Int) (r2 : List Int) (r3 : Int) (r4 : Int) (w : World) (hr0_1 : Kd.C (Kd.int .u8) w A0_1 l0_1.length l0_1) (hc0_1 : l0_1.length ≤ c0_1) (h : store_Cut.f a0_0 l0_1 a0_2 a1 = some (r1, r2, r3, r4)) :
    Calls Try.prog 17 #[.agg #[.int .i64 a0_0, .slice A0_1 l0_1.length c0_1, .int .i64 a0_2], .int .i64 a1] w fun e w' => ∃ v1_ : Value, e = .returned (.tuple #[.agg #[.int .i64 r1, v1_, .int .i64 r3], .int .i64 r4]) ∧ Kd.V (Kd.int .u8) 5 w' w.heap.size (fun k_ => (w.heap.size ≤ k_)) v1_ r2 ∧ Below w.heap.size w w' := by
  have HR := Aside0.mk hr0_1
  have HC := Aside0.mk hc0_1
  have H := Aside0.mk h
  clear hr0_1 hc0_1 h
  go_enter Try.func17, Try.ntmps17
  go_wp2_with (first | (go_at_call 28; refine (do_cut_any (.slice none 0 0) a0_0 A0_1 c0_1 l0_1 a0_2 a1 r1 r2 r3 r4 _ (Kd.C_alloc (Kd.C_alloc HR.out _) _) HC.out H.out).mono ?_; rintro e w2 ⟨v1, rfl, hV, hb⟩; obtain ⟨A1, c1, rfl⟩ := Kd.V_slice hV; obtain ⟨b1, b2⟩ := two_blocks hb; obtain ⟨⟨j0, j1, j2⟩, g0, g1, g2⟩ := cells3 b2; have B2 := Aside0.mk b2; have Hb := Aside0.mk (below_step (below_alloc (below_alloc (Below.refl w.heap.size w) _) _) hb); have HV := Aside0.mk hV; clear b1 b2 hb hV))
  refine bodyPost_ret (results_ct rfl _ _ (w.heap.size + 1) 24 #[.int .i64 r1, .slice A1 r2.length c1, .int .i64 r3] (0, 0) _ rfl (blk_put (blk_put (blk_put B2.out 0 _ rfl) 1 _ rfl) 2 _ rfl) Try.underlying24 rfl (by kernel_rfl)) rfl ⟨_, rfl, ?_, ?_⟩
  · have hk : ∀ k, ((w.alloc (.cells #[.int .i64 a0_0, .slice A0_1 l0_1.length c0_1, .int .i64 a0_2] 24)).alloc (.cells #[.int .i64 0, .slice none 0 0, .int .i64 0] 24)).heap.size ≤ k → w.heap.size + 2 ≤ k := by
      intro k hk
      rw [alloc_size, alloc_size] at hk
      exact hk
    refine Kd.V_mono (Kd.V_far (Kd.V_far (Kd.V_far (Kd.V_mono HV.out hk) (fun k (hk : _ ≤ k) => ?_) _) (fun k (hk : _ ≤ k) => ?_) _) (fun k (hk : _ ≤ k) => ?_) _) (fun k hk => ?_)
    all_goals first | omega | (show k ≠ w.heap.size + 1; omega)
  · exact below_set (below_set (below_set Hb.out (Nat.le_succ _)) (Nat.le_succ _)) (Nat.le_succ _)
set_option maxHeartbeats 400000 in
set_option maxRecDepth 100000 in
theorem store_Sync.calls (a0_0 : Int) (A0_1 : Option Addr) (c0_1 : Nat) (l0_1 : List Int) (a0_2 : Int) (r1 : Int) (r2 : List Int) (r3 : Int) (r4 : Int) (w : World) (hr0_1 : Kd.C (Kd.int .u8) w A0_1 l0_1.length l0_1) (hc0_1 : l0_1.length ≤ c0_1) (h : store_Sync.f a0_0 l0_1 a0_2 = some (r1, r2, r3, r4)) :
    Calls Try.prog 13 #[.agg #[.int .i64 a0_0, .slice A0_1 l0_1.length c0_1, .int .i64 a0_2]] w fun e w' => ∃ v1_ : Value, e = .returned (.tuple #[.agg #[.int .i64 r1, v1_, .int .i64 r3], .int .i64 r4]) ∧ Kd.V (Kd.int .u8) 5 w' w.heap.size (fun k_ => (w.heap.size ≤ k_)) v1_ r2 ∧ Below w.heap.size w w' := by
  have HR := Aside0.mk hr0_1
  have HC := Aside0.mk hc0_1
  have H := Aside0.mk h
  clear hr0_1 hc0_1 h
  go_enter Try.func13, Try.ntmps13
  go_wp2_with (first | (go_at_call 28; refine (do_sync_any (.slice none 0 0) a0_0 A0_1 c0_1 l0_1 a0_2 0 r1 r2 r3 r4 _ (Kd.C_alloc (Kd.C_alloc HR.out _) _) HC.out H.out).mono ?_; rintro e w2 ⟨v1, rfl, hV, hb⟩; obtain ⟨A1, c1, rfl⟩ := Kd.V_slice hV; obtain ⟨b1, b2⟩ := two_blocks hb; obtain ⟨⟨j0, j1, j2⟩, g0, g1, g2⟩ := cells3 b2; have B2 := Aside0.mk b2; have Hb := Aside0.mk (below_step (below_alloc (below_alloc (Below.refl w.heap.size w) _) _) hb); have HV := Aside0.mk hV; clear b1 b2 hb hV))
  refine bodyPost_ret (results_ct rfl _ _ (w.heap.size + 1) 24 #[.int .i64 r1, .slice A1 r2.length c1, .int .i64 r3] (0, 0) _ rfl (blk_put (blk_put (blk_put B2.out 0 _ rfl) 1 _ rfl) 2 _ rfl) Try.underlying24 rfl (by kernel_rfl)) rfl ⟨_, rfl, ?_, ?_⟩
  · have hk : ∀ k, ((w.alloc (.cells #[.int .i64 a0_0, .slice A0_1 l0_1.length c0_1, .int .i64 a0_2] 24)).alloc (.cells #[.int .i64 0, .slice none 0 0, .int .i64 0] 24)).heap.size ≤ k → w.heap.size + 2 ≤ k := by
      intro k hk
      rw [alloc_size, alloc_size] at hk
      exact hk
    refine Kd.V_mono (Kd.V_far (Kd.V_far (Kd.V_far (Kd.V_mono HV.out hk) (fun k (hk : _ ≤ k) => ?_) _) (fun k (hk : _ ≤ k) => ?_) _) (fun k (hk : _ ≤ k) => ?_) _) (fun k hk => ?_)
    all_goals first | omega | (show k ≠ w.heap.size + 1; omega)
  · exact below_set (below_set (below_set Hb.out (Nat.le_succ _)) (Nat.le_succ _)) (Nat.le_succ _)
end Go.Proofs.Ytlldfihhdbbicaa.P
