/- By hand: pelicanlaw05.awake. -/
import Derived.Test.YtmmmmedcgmcoaaaHUnrow
import Derived.Test.YtmmmmedcgmcoaaaHWalk
import Derived.Test.YtmmmmedcgmcoaaaPx1
import Derived.Shelf.RegionOpenPlain
namespace Go.Proofs.Ytmmmmedcgmcoaaa.P
open Go.RowKit Go.Shelf Go.Proofs.YtmmmmedcgmcoaaaW.PrintWords Go.Proofs.YtmmmmedcgmcoaaaW.PrintLast Go.Proofs.YtmmmmedcgmcoaaaW.PrintMore
set_option linter.unusedVariables false
set_option linter.unusedSimpArgs false
theorem aw_row : term_Row.f [1, 2] = some (2, 0, [⟨0, 1, []⟩, ⟨0, 2, []⟩], true) := by kernel_rfl
theorem aw_steps : stepsL ⟨2, 0, [⟨0, 1, []⟩, ⟨0, 2, []⟩]⟩ = [⟨0, 1, []⟩, ⟨0, 2, []⟩] := by
  rw [stepsL_fork, stepsL_leaf ⟨0, 2, []⟩ (by simp)]
theorem aw_out : outL ⟨2, 0, [⟨0, 1, []⟩, ⟨0, 2, []⟩]⟩ = [1, 2] := by
  unfold outL
  rw [aw_steps]
  rfl
theorem aw_same : sameT ⟨2, 0, [⟨0, 1, []⟩, ⟨0, 2, []⟩]⟩ ⟨2, 0, [⟨0, 1, []⟩, ⟨0, 2, []⟩]⟩ = true := by kernel_rfl
theorem aw_unrow : term_Unrow.f 2 0 [⟨0, 1, []⟩, ⟨0, 2, []⟩] = some ([1, 2], true) := by
  have h1 : uB ⟨2, 0, [⟨0, 1, []⟩, ⟨0, 2, []⟩]⟩ = true := by
    unfold uB
    rw [aw_out]
    kernel_rfl
  unfold term_Unrow.f uL
  rw [h1, aw_steps, aw_out]
  rfl
theorem aw_size : term_Size.f 2 0 [⟨0, 1, []⟩, ⟨0, 2, []⟩] = some 3 := by kernel_rfl
theorem aw_depth : term_Depth.f 2 0 [⟨0, 1, []⟩, ⟨0, 2, []⟩] = some 2 := by kernel_rfl
theorem aw_may : term_May.f 2 0 [⟨0, 1, []⟩, ⟨0, 2, []⟩] = some true := by kernel_rfl
theorem aw_same2 : term_Same.f 2 0 [⟨0, 1, []⟩, ⟨0, 2, []⟩] 2 0 [⟨0, 1, []⟩, ⟨0, 2, []⟩] = some true := by kernel_rfl
theorem aw_own : term_Own.f 9 2 0 [⟨0, 1, []⟩, ⟨0, 2, []⟩] = some (2, 0, [⟨0, 1, []⟩, ⟨0, 2, []⟩]) := by kernel_rfl
def pelicanlaw05_awake.f : Option Bool := some true
def awL : List S24 := [⟨0, 1, []⟩, ⟨0, 2, []⟩]
theorem awL_len : awL.length = 2 := rfl
set_option maxRecDepth 100000 in
set_option maxHeartbeats 8000000 in
theorem pelicanlaw05_awake.calls (r : Bool) (w : World) (h : pelicanlaw05_awake.f = some r) :
    Calls Try.prog 9 #[] w fun e w' => e = .returned (.bool r) ∧ Below w.heap.size w w' := by
  obtain rfl := Option.some.inj h
  clear h
  have hmx : Try.prog.follows .mixedOrders = true := by kernel_rfl
  obtain ⟨L, hL⟩ : ∃ L, L = awL := ⟨_, rfl⟩
  have hll : L.length = 2 := by rw [hL]; rfl
  have F1 := Aside0.mk (show term_Row.f [1, 2] = some (2, 0, L, true) by rw [hL]; exact aw_row)
  have F2 := Aside0.mk (show term_Unrow.f 2 0 L = some ([1, 2], true) by rw [hL]; exact aw_unrow)
  have F3 := Aside0.mk (show term_Size.f 2 0 L = some 3 by rw [hL]; exact aw_size)
  have F4 := Aside0.mk (show term_Depth.f 2 0 L = some 2 by rw [hL]; exact aw_depth)
  have F5 := Aside0.mk (show term_May.f 2 0 L = some true by rw [hL]; exact aw_may)
  have F6 := Aside0.mk (show term_Same.f 2 0 L 2 0 L = some true by rw [hL]; exact aw_same2)
  have F7 := Aside0.mk (show term_Own.f 9 2 0 L = some (2, 0, L) by rw [hL]; exact aw_own)
  clear hL hll
  obtain ⟨o, ho⟩ : ∃ o : List Int, o = [1, 2] := ⟨_, rfl⟩
  have hw0 : (w.alloc (.cells #[.int .i64 1, .int .i64 2] 3)).heap.size = w.heap.size + 1 := Array.size_push _
  have HC0 : Aside0 (Kd.C (Kd.int .i64) (w.alloc (.cells #[.int .i64 1, .int .i64 2] 3)) (some ⟨w.heap.size, 0, none⟩) [1, 2].length [1, 2]) := by
    have z : Kd.R (Kd.int .i64) 3 (w.alloc (.cells #[.int .i64 1, .int .i64 2] 3)) w.heap.size (fun _ => True) (.slice (some ⟨w.heap.size, 0, none⟩) 2 2) [1, 2] :=
      Kd.R_of_own ⟨rfl, .inr ⟨w.heap.size, 2, _, rfl, Nat.le_refl _, blk_new w _, Nat.le_refl _, by decide, rfl, rfl⟩⟩ (fun _ _ => trivial)
    exact ⟨(Kd.R_reads' z).2.2⟩
  have HB0 := Aside0.mk (below_alloc (Below.refl w.heap.size w) (.cells #[.int .i64 1, .int .i64 2] 3 (0, 0)))
  clear ho
  go_enter Try.func9, Try.ntmps9
  go_wp2_with (first
    | (go_at_call 11; refine (term_Row.calls (some ⟨w.heap.size, 0, none⟩) 2 [1, 2] _ _ _ _ _ HC0.out (Nat.le_refl _) F1.out).mono ?_; rintro e w1 ⟨v2, rfl, hV, hb1⟩; obtain ⟨A5, c5, rfl⟩ := Kd.V_slice hV; have HVV := Aside0.mk hV; have HB1 := Aside0.mk hb1; have B5 := Aside0.mk (blk_new w1 (.cells #[.int .i64 2, .int .i64 0, .slice A5 L.length c5] 24 (0, 0))); obtain ⟨⟨k0, k1, k2⟩, j0, j1, j2⟩ := cells3 B5.out; have HS5 := Aside0.mk (Kd.V_alloc hV (.cells #[.int .i64 2, .int .i64 0, .slice A5 L.length c5] 24 (0, 0))); have HCL := Aside0.mk (Kd.V_reads' HS5.out).2.1; clear hV hb1)
    | (go_at_call 13; refine (term_Unrow.calls 2 0 A5 c5 L _ _ _ (Kd.V_reads' HS5.out).2.2 HCL.out F2.out).mono ?_; rintro e w2 ⟨v3, rfl, hR3, hb2⟩; obtain ⟨A6, c6, rfl, hl6, hC6⟩ := Kd.R_reads hR3; have HB2 := Aside0.mk hb2; have HC6 := Aside0.mk hC6; clear hR3 hl6 hC6 hb2))
  have BX := Aside0.mk (blk_below B5.out HB2.out)
  have VX := Aside0.mk (Kd.V_below HS5.out HB2.out)
  obtain ⟨ad, ea, e0⟩ := Kd.at_int HC6.out 0 (by omega) (by decide)
  obtain ⟨ad', ea', e1⟩ := Kd.at_int HC6.out 1 (by omega) (by decide)
  subst ea
  obtain rfl := Option.some.inj ea'
  replace e0 : w2.cell? (ad.add 0) = some (.int .i64 1) := e0
  replace e1 : w2.cell? (ad.add 1) = some (.int .i64 2) := e1
  rw [Addr.add_zero'] at e0
  rw [show ad.add 1 = ⟨ad.block, ad.off + 1, none⟩ by simp [Addr.add]] at e1
  have E0 := Aside0.mk e0
  have E1 := Aside0.mk e1
  have HBc := Aside0.mk (below_drew (Below.refl w2.heap.size w2))
  have HBB := Aside0.mk (HB0.out.trans (HB1.out.mono (by omega)))
  have hA_ := HBB.out.trans ((below_alloc (Below.refl w1.heap.size w1) (.cells #[.int .i64 2, .int .i64 0, .slice A5 L.length c5] 24 (0, 0))).mono HBB.out.size)
  have HW2 := Aside0.mk (hA_.trans (HB2.out.mono hA_.size))
  clear k0 k1 k2 j0 j1 j2 e0 e1 ea' hA_
  obtain ⟨⟨k0, k1, k2⟩, j0, j1, j2⟩ := cells3 BX.out
  go_region_with_o (first
    | (go_at_call 19; refine (term_Size.calls 2 0 A5 c5 L _ _ (Kd.V_reads' (Kd.V_below VX.out HBc.out)).2.2 HCL.out F3.out).mono ?_; rintro e w3 ⟨rfl, hb_⟩; have HBc := Aside0.mk (HBc.out.trans (hb_.mono HBc.out.size)); obtain ⟨⟨k0, k1, k2⟩, j0, j1, j2⟩ := cells3 (blk_below BX.out HBc.out); have d0 := (HBc.out.cell (World.block_lt_of_cell? w2 _ E0.out)).trans E0.out; have d1 := (HBc.out.cell (World.block_lt_of_cell? w2 _ E1.out)).trans E1.out; clear hb_)
    | (go_at_call 21; refine (term_Depth.calls 2 0 A5 c5 L _ _ (Kd.V_reads' (Kd.V_below VX.out HBc.out)).2.2 HCL.out F4.out).mono ?_; rintro e w4 ⟨rfl, hb_⟩; have HBc := Aside0.mk (HBc.out.trans (hb_.mono HBc.out.size)); obtain ⟨⟨k0, k1, k2⟩, j0, j1, j2⟩ := cells3 (blk_below BX.out HBc.out); have d0 := (HBc.out.cell (World.block_lt_of_cell? w2 _ E0.out)).trans E0.out; have d1 := (HBc.out.cell (World.block_lt_of_cell? w2 _ E1.out)).trans E1.out; clear hb_)
    | (go_at_call 23; refine (term_May.calls 2 0 A5 c5 L _ _ (Kd.V_reads' (Kd.V_below VX.out HBc.out)).2.2 HCL.out F5.out).mono ?_; rintro e w5 ⟨rfl, hb_⟩; have HBc := Aside0.mk (HBc.out.trans (hb_.mono HBc.out.size)); obtain ⟨⟨k0, k1, k2⟩, j0, j1, j2⟩ := cells3 (blk_below BX.out HBc.out); have d0 := (HBc.out.cell (World.block_lt_of_cell? w2 _ E0.out)).trans E0.out; have d1 := (HBc.out.cell (World.block_lt_of_cell? w2 _ E1.out)).trans E1.out; clear hb_)
    | (go_at_call 16; refine (term_Own.calls 9 2 0 (fun _ => True) A5 c5 L _ _ _ _ (Kd.V_map VX.out (fun _ hf => Kd.F_mono (Kd.F_below hf HBc.out) (fun _ _ => trivial))) F7.out).mono ?_; rintro e w6 ⟨v7, rfl, hN, hb_⟩; obtain ⟨A7, c7, rfl⟩ := Kd.N_slice hN; have HN := Aside0.mk hN; have HBc := Aside0.mk (HBc.out.trans (hb_.mono HBc.out.size)); obtain ⟨⟨k0, k1, k2⟩, j0, j1, j2⟩ := cells3 (blk_below BX.out HBc.out); have d0 := (HBc.out.cell (World.block_lt_of_cell? w2 _ E0.out)).trans E0.out; have d1 := (HBc.out.cell (World.block_lt_of_cell? w2 _ E1.out)).trans E1.out; clear hb_; clear hN)
    | (go_at_call 24; refine (term_Same.calls 2 0 A7 c7 L 2 0 A5 c5 L _ _ (Kd.N_reads' HN.out).2.2 (Kd.N_reads' HN.out).2.1 (Kd.V_reads' (Kd.V_below VX.out HBc.out)).2.2 HCL.out F6.out).mono ?_; rintro e w7 ⟨rfl, hb_⟩; have HBc := Aside0.mk (HBc.out.trans (hb_.mono HBc.out.size)); obtain ⟨⟨k0, k1, k2⟩, j0, j1, j2⟩ := cells3 (blk_below BX.out HBc.out); have d0 := (HBc.out.cell (World.block_lt_of_cell? w2 _ E0.out)).trans E0.out; have d1 := (HBc.out.cell (World.block_lt_of_cell? w2 _ E1.out)).trans E1.out; clear hb_)
    | (go_at_call 24; refine (term_Same.calls 2 0 A5 c5 L 2 0 A5 c5 L _ _ (Kd.V_reads' (Kd.V_below VX.out HBc.out)).2.2 HCL.out (Kd.V_reads' (Kd.V_below VX.out HBc.out)).2.2 HCL.out F6.out).mono ?_; rintro e w8 ⟨rfl, hb_⟩; have HBc := Aside0.mk (HBc.out.trans (hb_.mono HBc.out.size)); obtain ⟨⟨k0, k1, k2⟩, j0, j1, j2⟩ := cells3 (blk_below BX.out HBc.out); have d0 := (HBc.out.cell (World.block_lt_of_cell? w2 _ E0.out)).trans E0.out; have d1 := (HBc.out.cell (World.block_lt_of_cell? w2 _ E1.out)).trans E1.out; clear hb_))
  all_goals go_wp2
  all_goals (try go_ret)
  all_goals first
    | exact ⟨rfl, HW2.out.trans (HBc.out.mono HW2.out.size)⟩
    | exact ⟨rfl, below_drew (HW2.out.trans (HBc.out.mono HW2.out.size))⟩
    | (refine ⟨?_, HW2.out.trans (HBc.out.mono HW2.out.size)⟩; simp; done)
    | (trace_state; sorry)
end Go.Proofs.Ytmmmmedcgmcoaaa.P
