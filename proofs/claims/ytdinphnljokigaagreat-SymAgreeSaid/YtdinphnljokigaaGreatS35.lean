/- What LawSymAgree rests on, part 35: several texts put together. -/
import Derived.Test.YtdinphnljokigaaGreatS34
import Derived.Test.YtdinphnljokigaaGreatS3
set_option linter.unusedVariables false
set_option linter.unnecessarySimpa false
set_option linter.unusedSimpArgs false
set_option maxRecDepth 100000
section
namespace Go.Proofs.YtdinphnljokigaaGreat.P
open Go.RowKit Go.Lib Go.Proofs.YtdinphnljokigaaGreatW.PrintWords Go.Proofs.YtdinphnljokigaaGreatW.PrintLast Go.Proofs.YtdinphnljokigaaGreatW.PrintMore
theorem nilS {w : World} {P : Nat → Prop} : Kd.V kS 33 w 0 P (.slice none 0 0) ([] : List Ses) := Kd.R_V (Kd.R_nil kS _ w 0 P)
set_option maxHeartbeats 8000000 in
theorem step_0 (M : Mdl) (a : Ac) (vU vT vK vD vA : Value) (w : World) (rq : Nat → Prop) (hq : ∀ k, rq k → k < w.heap.size) (hm : MdO w rq M vU vT vK vD) (hs : smallM M) (hX : wfS a.X) (hW : wfF a.F) (hS : ∀ x ∈ M.T, wfS x) (hA : Told k24 w vA a.T.f2) (hy : mayM M = false) :
  Calls Tryz.prog 12 #[.agg (mca M vU vT vK vD), .agg (aca a vA)] w fun e w' => ∃ vU' vT' vK' vD', e = .returned (.tuple #[.agg (mca (stepM M a).1 vU' vT' vK' vD'), .int .i64 (stepM M a).2]) ∧ MdO w' rq (stepM M a).1 vU' vT' vK' vD' ∧ Below w.heap.size w w' := by
 have HE := aq_ (show stepM M a = (M, 1) by unfold stepM; rw [if_pos hy])
 have HY := aq_ hy
 clear hy
 have HM := aq_ hm
 have HQ := aq_ hq
 have HSM := aq_ hs
 have SK := aq_ (show M.K.length < 1000000 from hs.1.2.2.1)
 have STL := aq_ (show M.T.length < 1000000 from hs.1.2.1)
 have SD := aq_ (show M.D.length < 1000000 from hs.1.2.2.2)
 have HX := aq_ hX
 have HW := aq_ hW
 have HS := aq_ hS
 have TA := aq_ hA
 clear hm hq hs hX hW hS hA
 go_enter Tryz.func12, Tryz.ntmps12
 go_upto_region 1 with (first
  | ((with_reducible refine box_Mo (.tmp 0) (M := M) (vU := vU) (vT := vT) (vK := vK) (vD := vD) rfl rfl rfl ?_); intro gm hgm w1 hbox hb; have B3 := aq_ hb; have L3 := aq_ hb.size; have XM := aq_ hbox; replace TA := aq_ (told_belowG TA.out hb); clear hgm hbox hb)
  | ((with_reducible refine box_Ac (.tmp 1) (x := a) (v := vA) rfl rfl rfl ?_); intro ga hga w2 hbox hb; have AB := aq_ hbox; replace XM := aq_ (blk_below XM.out hb); replace TA := aq_ (told_belowG TA.out hb); replace B3 := aq_ (B3.out.trans (hb.mono L3.out)); replace L3 := aq_ (Nat.le_trans L3.out hb.size); clear hga hbox hb)
  | ((with_reducible refine alloc_Mo rfl rfl ?_); intro gr hgr w3 hbox hb; have GR := aq_ (show w.heap.size ≤ gr by have := L3.out; omega); have XR := aq_ hbox; replace XM := aq_ (blk_below XM.out hb); replace AB := aq_ (blk_below AB.out hb); replace TA := aq_ (told_belowG TA.out hb); replace B3 := aq_ (B3.out.trans (hb.mono L3.out)); replace L3 := aq_ (Nat.le_trans L3.out hb.size); clear hgr hbox hb))
 have HO := aq_ (mdO_add HM.out B3.out GR.out)
 have GRL := aq_ (show ∀ k, rq k ∨ k = gr → k < w3.heap.size from fun k hk => hk.elim (fun h => Nat.lt_of_lt_of_le (HQ.out k h) L3.out) (fun h => by rw [h]; exact blk_lt XR.out))
 go_wp2_with (first
  | (with_reducible refine load_Mo (.tmp 2) rfl rfl rfl XM.out ?_)
  | ((go_at_call 25; (with_reducible refine (sown_any M vU vT vK vD _ (fun k => rq k ∨ k = gr) GRL.out HO.out HSM.out).mono ?_)); rintro e w4 ⟨vU', vT', vK', vD', rfl, hO, hb⟩; obtain ⟨⟨B1, d1, rfl⟩, ⟨B2, d2, rfl⟩, ⟨B3_, d3, rfl⟩, ⟨B4, d4, rfl⟩⟩ := mdC_slices (ownM_told hO); have OW := aq_ hO; have C4 := aq_ hb; clear hO hb)
  | ((with_reducible refine alloc_Mo rfl rfl ?_); intro gO hgO w5 hbox hb; have XZ := aq_ hbox; have D4 := aq_ hb; have GO4 := aq_ (show w4.heap.size ≤ gO by omega); clear hgO hbox hb)
  | ((with_reducible refine store_Mo (.tmp 6) (.tmp 10) rfl rfl rfl rfl rfl rfl rfl rfl rfl rfl XZ.out ?_); intro w6 hx1 hs1 hb1 hf1; have D6 := aq_ (hb1 _ _ GO4.out D4.out); have MB := aq_ (mbox_of OW.out D6.out GO4.out C4.out.size hx1); have HB := aq_ (C4.out.trans (D6.out.mono C4.out.size)); have LB := aq_ (show w3.heap.size ≤ w6.heap.size from Nat.le_trans C4.out.size D6.out.size); clear OW C4 XZ D4 D6 GO4 hx1 hs1 hb1 hf1)
  | (with_reducible refine load_Mo (.tmp 2) rfl rfl rfl (blk_below XM.out HB.out) ?_)
  | ((go_at_call 22; (with_reducible refine (mayM_any M vU vT vK vD _ (mdO_told (mdO_below HO.out HB.out))).mono ?_)); rintro e w7 ⟨he_, hb⟩; rw [HY.out] at he_; subst he_; replace MB := aq_ (mbox_below MB.out hb); replace HB := aq_ (HB.out.trans (hb.mono LB.out)); replace LB := aq_ (Nat.le_trans LB.out hb.size); have XO := aq_ MB.out.1; have MO := aq_ (mbox_mdo MB.out); have c0 := cellsA_kind (blk_below AB.out HB.out); have c2 : w7.cell? ⟨gO, 2, none⟩ = some (.slice B2 M.T.length d2) := blk_cell MB.out.1 2; have c3 : w7.cell? ⟨gO, 3, none⟩ = some (.int .i64 M.epoch) := blk_cell MB.out.1 3; have c4 : w7.cell? ⟨gO, 4, none⟩ = some (.int .i64 M.now) := blk_cell MB.out.1 4; have z2 := blk_frozen MB.out.1 2; have z3 := blk_frozen MB.out.1 3; have z4 := blk_frozen MB.out.1 4; clear hb)
  | (with_reducible refine load_Mo (.tmp 6) rfl rfl rfl XO.out ?_)
  | ((with_reducible refine store_Mo (.tmp 4) (.tmp 14) rfl rfl rfl rfl rfl rfl rfl rfl rfl rfl (blk_below XR.out HB.out) ?_); intro wF hx1 hs1 hb1 hf1; have XF := aq_ hx1; have BF := aq_ (hb1 _ _ GR.out (B3.out.trans (HB.out.mono L3.out))); have MF := aq_ (mdO_sub MO.out hf1); clear hx1 hs1 hb1 hf1))
 all_goals (refine bodyPost_ret (ret_Mt rfl (g := gr) rfl rfl XF.out) rfl ?_; exact ⟨_, _, _, _, by rw [HE.out]; rfl, by rw [HE.out]; exact MF.out, BF.out⟩)
set_option maxHeartbeats 8000000 in
theorem step_1 (M : Mdl) (a : Ac) (vU vT vK vD vA : Value) (w : World) (rq : Nat → Prop) (hq : ∀ k, rq k → k < w.heap.size) (hm : MdO w rq M vU vT vK vD) (hs : smallM M) (hX : wfS a.X) (hW : wfF a.F) (hS : ∀ x ∈ M.T, wfS x) (hA : Told k24 w vA a.T.f2) (hy : mayM M = true) (hk : a.kind = 0) :
  Calls Tryz.prog 12 #[.agg (mca M vU vT vK vD), .agg (aca a vA)] w fun e w' => ∃ vU' vT' vK' vD', e = .returned (.tuple #[.agg (mca (stepM M a).1 vU' vT' vK' vD'), .int .i64 (stepM M a).2]) ∧ MdO w' rq (stepM M a).1 vU' vT' vK' vD' ∧ Below w.heap.size w w' := by
 have HE := aq_ (show stepM M a = emitM M a by unfold stepM; rw [if_neg (by rw [hy]; decide), if_pos hk])
 have HY := aq_ hy
 clear hy
 have q0 : (a.kind == 0) = true := by simp [hk]
 clear hk
 have HM := aq_ hm
 have HQ := aq_ hq
 have HSM := aq_ hs
 have SK := aq_ (show M.K.length < 1000000 from hs.1.2.2.1)
 have STL := aq_ (show M.T.length < 1000000 from hs.1.2.1)
 have SD := aq_ (show M.D.length < 1000000 from hs.1.2.2.2)
 have HX := aq_ hX
 have HW := aq_ hW
 have HS := aq_ hS
 have TA := aq_ hA
 clear hm hq hs hX hW hS hA
 go_enter Tryz.func12, Tryz.ntmps12
 go_upto_region 1 with (first
  | ((with_reducible refine box_Mo (.tmp 0) (M := M) (vU := vU) (vT := vT) (vK := vK) (vD := vD) rfl rfl rfl ?_); intro gm hgm w1 hbox hb; have B3 := aq_ hb; have L3 := aq_ hb.size; have XM := aq_ hbox; replace TA := aq_ (told_belowG TA.out hb); clear hgm hbox hb)
  | ((with_reducible refine box_Ac (.tmp 1) (x := a) (v := vA) rfl rfl rfl ?_); intro ga hga w2 hbox hb; have AB := aq_ hbox; replace XM := aq_ (blk_below XM.out hb); replace TA := aq_ (told_belowG TA.out hb); replace B3 := aq_ (B3.out.trans (hb.mono L3.out)); replace L3 := aq_ (Nat.le_trans L3.out hb.size); clear hga hbox hb)
  | ((with_reducible refine alloc_Mo rfl rfl ?_); intro gr hgr w3 hbox hb; have GR := aq_ (show w.heap.size ≤ gr by have := L3.out; omega); have XR := aq_ hbox; replace XM := aq_ (blk_below XM.out hb); replace AB := aq_ (blk_below AB.out hb); replace TA := aq_ (told_belowG TA.out hb); replace B3 := aq_ (B3.out.trans (hb.mono L3.out)); replace L3 := aq_ (Nat.le_trans L3.out hb.size); clear hgr hbox hb))
 have HO := aq_ (mdO_add HM.out B3.out GR.out)
 have GRL := aq_ (show ∀ k, rq k ∨ k = gr → k < w3.heap.size from fun k hk => hk.elim (fun h => Nat.lt_of_lt_of_le (HQ.out k h) L3.out) (fun h => by rw [h]; exact blk_lt XR.out))
 go_wp2_with (first
  | (with_reducible refine load_Mo (.tmp 2) rfl rfl rfl XM.out ?_)
  | ((go_at_call 25; (with_reducible refine (sown_any M vU vT vK vD _ (fun k => rq k ∨ k = gr) GRL.out HO.out HSM.out).mono ?_)); rintro e w4 ⟨vU', vT', vK', vD', rfl, hO, hb⟩; obtain ⟨⟨B1, d1, rfl⟩, ⟨B2, d2, rfl⟩, ⟨B3_, d3, rfl⟩, ⟨B4, d4, rfl⟩⟩ := mdC_slices (ownM_told hO); have OW := aq_ hO; have C4 := aq_ hb; clear hO hb)
  | ((with_reducible refine alloc_Mo rfl rfl ?_); intro gO hgO w5 hbox hb; have XZ := aq_ hbox; have D4 := aq_ hb; have GO4 := aq_ (show w4.heap.size ≤ gO by omega); clear hgO hbox hb)
  | ((with_reducible refine store_Mo (.tmp 6) (.tmp 10) rfl rfl rfl rfl rfl rfl rfl rfl rfl rfl XZ.out ?_); intro w6 hx1 hs1 hb1 hf1; have D6 := aq_ (hb1 _ _ GO4.out D4.out); have MB := aq_ (mbox_of OW.out D6.out GO4.out C4.out.size hx1); have HB := aq_ (C4.out.trans (D6.out.mono C4.out.size)); have LB := aq_ (show w3.heap.size ≤ w6.heap.size from Nat.le_trans C4.out.size D6.out.size); clear OW C4 XZ D4 D6 GO4 hx1 hs1 hb1 hf1)
  | (with_reducible refine load_Mo (.tmp 2) rfl rfl rfl (blk_below XM.out HB.out) ?_)
  | ((go_at_call 22; (with_reducible refine (mayM_any M vU vT vK vD _ (mdO_told (mdO_below HO.out HB.out))).mono ?_)); rintro e w7 ⟨he_, hb⟩; rw [HY.out] at he_; subst he_; replace MB := aq_ (mbox_below MB.out hb); replace HB := aq_ (HB.out.trans (hb.mono LB.out)); replace LB := aq_ (Nat.le_trans LB.out hb.size); have XO := aq_ MB.out.1; have MO := aq_ (mbox_mdo MB.out); have c0 := cellsA_kind (blk_below AB.out HB.out); have c2 : w7.cell? ⟨gO, 2, none⟩ = some (.slice B2 M.T.length d2) := blk_cell MB.out.1 2; have c3 : w7.cell? ⟨gO, 3, none⟩ = some (.int .i64 M.epoch) := blk_cell MB.out.1 3; have c4 : w7.cell? ⟨gO, 4, none⟩ = some (.int .i64 M.now) := blk_cell MB.out.1 4; have z2 := blk_frozen MB.out.1 2; have z3 := blk_frozen MB.out.1 3; have z4 := blk_frozen MB.out.1 4; clear hb)
  | (with_reducible refine load_Ac (.tmp 3) rfl rfl (p := ⟨ga, 0, none⟩) rfl (boxA (blk_below AB.out HB.out)) ?_)
  | ((go_at_call 28; (with_reducible refine (emit_any M a _ _ _ _ vA w3 _ w3.heap.size gO _ MB.out HB.out LB.out HX.out HW.out SK.out).mono ?_)); rintro e w8 ⟨vK2, rfl, h1, h2, h3⟩; obtain ⟨_, _, ⟨A8, c8, rfl⟩, _⟩ := mdO_slices h2; clear MB HB LB XO MO c0 c2 c3 c4 z2 z3 z4; have XO := aq_ h1; have MO := aq_ h2; have HB := aq_ h3; clear h1 h2 h3)
  | (with_reducible refine load_Mo (.tmp 6) rfl rfl rfl XO.out ?_)
  | ((with_reducible refine store_Mo (.tmp 4) (.tmp 22) rfl rfl rfl rfl rfl rfl rfl rfl rfl rfl (blk_below XR.out HB.out) ?_); intro wF hx1 hs1 hb1 hf1; have XF := aq_ hx1; have BF := aq_ (hb1 _ _ GR.out (B3.out.trans (HB.out.mono L3.out))); have MF := aq_ (mdO_sub MO.out hf1); clear hx1 hs1 hb1 hf1))
 all_goals (refine bodyPost_ret (ret_Mt rfl (g := gr) rfl rfl XF.out) rfl ?_; exact ⟨_, _, _, _, by rw [HE.out]; rfl, by rw [HE.out]; exact MF.out, BF.out⟩)
set_option maxHeartbeats 8000000 in
theorem step_2 (M : Mdl) (a : Ac) (vU vT vK vD vA : Value) (w : World) (rq : Nat → Prop) (hq : ∀ k, rq k → k < w.heap.size) (hm : MdO w rq M vU vT vK vD) (hs : smallM M) (hX : wfS a.X) (hW : wfF a.F) (hS : ∀ x ∈ M.T, wfS x) (hA : Told k24 w vA a.T.f2) (hy : mayM M = true) (hk : a.kind = 1) :
  Calls Tryz.prog 12 #[.agg (mca M vU vT vK vD), .agg (aca a vA)] w fun e w' => ∃ vU' vT' vK' vD', e = .returned (.tuple #[.agg (mca (stepM M a).1 vU' vT' vK' vD'), .int .i64 (stepM M a).2]) ∧ MdO w' rq (stepM M a).1 vU' vT' vK' vD' ∧ Below w.heap.size w w' := by
 have HE := aq_ (show stepM M a = giveM M a by unfold stepM; rw [if_neg (by rw [hy]; decide), if_neg (by omega), if_pos hk])
 have HY := aq_ hy
 clear hy
 have q0 : (a.kind == 0) = false := by simp [hk]
 have q1 : (a.kind == 1) = true := by simp [hk]
 clear hk
 have HM := aq_ hm
 have HQ := aq_ hq
 have HSM := aq_ hs
 have SK := aq_ (show M.K.length < 1000000 from hs.1.2.2.1)
 have STL := aq_ (show M.T.length < 1000000 from hs.1.2.1)
 have SD := aq_ (show M.D.length < 1000000 from hs.1.2.2.2)
 have HX := aq_ hX
 have HW := aq_ hW
 have HS := aq_ hS
 have TA := aq_ hA
 clear hm hq hs hX hW hS hA
 go_enter Tryz.func12, Tryz.ntmps12
 go_upto_region 1 with (first
  | ((with_reducible refine box_Mo (.tmp 0) (M := M) (vU := vU) (vT := vT) (vK := vK) (vD := vD) rfl rfl rfl ?_); intro gm hgm w1 hbox hb; have B3 := aq_ hb; have L3 := aq_ hb.size; have XM := aq_ hbox; replace TA := aq_ (told_belowG TA.out hb); clear hgm hbox hb)
  | ((with_reducible refine box_Ac (.tmp 1) (x := a) (v := vA) rfl rfl rfl ?_); intro ga hga w2 hbox hb; have AB := aq_ hbox; replace XM := aq_ (blk_below XM.out hb); replace TA := aq_ (told_belowG TA.out hb); replace B3 := aq_ (B3.out.trans (hb.mono L3.out)); replace L3 := aq_ (Nat.le_trans L3.out hb.size); clear hga hbox hb)
  | ((with_reducible refine alloc_Mo rfl rfl ?_); intro gr hgr w3 hbox hb; have GR := aq_ (show w.heap.size ≤ gr by have := L3.out; omega); have XR := aq_ hbox; replace XM := aq_ (blk_below XM.out hb); replace AB := aq_ (blk_below AB.out hb); replace TA := aq_ (told_belowG TA.out hb); replace B3 := aq_ (B3.out.trans (hb.mono L3.out)); replace L3 := aq_ (Nat.le_trans L3.out hb.size); clear hgr hbox hb))
 have HO := aq_ (mdO_add HM.out B3.out GR.out)
 have GRL := aq_ (show ∀ k, rq k ∨ k = gr → k < w3.heap.size from fun k hk => hk.elim (fun h => Nat.lt_of_lt_of_le (HQ.out k h) L3.out) (fun h => by rw [h]; exact blk_lt XR.out))
 go_wp2_with (first
  | (with_reducible refine load_Mo (.tmp 2) rfl rfl rfl XM.out ?_)
  | ((go_at_call 25; (with_reducible refine (sown_any M vU vT vK vD _ (fun k => rq k ∨ k = gr) GRL.out HO.out HSM.out).mono ?_)); rintro e w4 ⟨vU', vT', vK', vD', rfl, hO, hb⟩; obtain ⟨⟨B1, d1, rfl⟩, ⟨B2, d2, rfl⟩, ⟨B3_, d3, rfl⟩, ⟨B4, d4, rfl⟩⟩ := mdC_slices (ownM_told hO); have OW := aq_ hO; have C4 := aq_ hb; clear hO hb)
  | ((with_reducible refine alloc_Mo rfl rfl ?_); intro gO hgO w5 hbox hb; have XZ := aq_ hbox; have D4 := aq_ hb; have GO4 := aq_ (show w4.heap.size ≤ gO by omega); clear hgO hbox hb)
  | ((with_reducible refine store_Mo (.tmp 6) (.tmp 10) rfl rfl rfl rfl rfl rfl rfl rfl rfl rfl XZ.out ?_); intro w6 hx1 hs1 hb1 hf1; have D6 := aq_ (hb1 _ _ GO4.out D4.out); have MB := aq_ (mbox_of OW.out D6.out GO4.out C4.out.size hx1); have HB := aq_ (C4.out.trans (D6.out.mono C4.out.size)); have LB := aq_ (show w3.heap.size ≤ w6.heap.size from Nat.le_trans C4.out.size D6.out.size); clear OW C4 XZ D4 D6 GO4 hx1 hs1 hb1 hf1)
  | (with_reducible refine load_Mo (.tmp 2) rfl rfl rfl (blk_below XM.out HB.out) ?_)
  | ((go_at_call 22; (with_reducible refine (mayM_any M vU vT vK vD _ (mdO_told (mdO_below HO.out HB.out))).mono ?_)); rintro e w7 ⟨he_, hb⟩; rw [HY.out] at he_; subst he_; replace MB := aq_ (mbox_below MB.out hb); replace HB := aq_ (HB.out.trans (hb.mono LB.out)); replace LB := aq_ (Nat.le_trans LB.out hb.size); have XO := aq_ MB.out.1; have MO := aq_ (mbox_mdo MB.out); have c0 := cellsA_kind (blk_below AB.out HB.out); have c2 : w7.cell? ⟨gO, 2, none⟩ = some (.slice B2 M.T.length d2) := blk_cell MB.out.1 2; have c3 : w7.cell? ⟨gO, 3, none⟩ = some (.int .i64 M.epoch) := blk_cell MB.out.1 3; have c4 : w7.cell? ⟨gO, 4, none⟩ = some (.int .i64 M.now) := blk_cell MB.out.1 4; have z2 := blk_frozen MB.out.1 2; have z3 := blk_frozen MB.out.1 3; have z4 := blk_frozen MB.out.1 4; clear hb)
  | (with_reducible refine load_Ac (.tmp 3) rfl rfl (p := ⟨ga, 0, none⟩) rfl (boxA (blk_below AB.out HB.out)) ?_)
  | ((go_at_call 29; (with_reducible refine (give_any M a _ _ _ _ vA w3 _ w3.heap.size gO _ MB.out HB.out LB.out STL.out SD.out HW.out HS.out (told_belowG TA.out HB.out)).mono ?_)); rintro e w8 ⟨vT2, vD2, rfl, h1, h2, h3⟩; obtain ⟨_, ⟨A8, c8, rfl⟩, _, ⟨A9, c9, rfl⟩⟩ := mdO_slices h2; clear MB HB LB XO MO c0 c2 c3 c4 z2 z3 z4; have XO := aq_ h1; have MO := aq_ h2; have HB := aq_ h3; clear h1 h2 h3)
  | (with_reducible refine load_Mo (.tmp 6) rfl rfl rfl XO.out ?_)
  | ((with_reducible refine store_Mo (.tmp 4) (.tmp 28) rfl rfl rfl rfl rfl rfl rfl rfl rfl rfl (blk_below XR.out HB.out) ?_); intro wF hx1 hs1 hb1 hf1; have XF := aq_ hx1; have BF := aq_ (hb1 _ _ GR.out (B3.out.trans (HB.out.mono L3.out))); have MF := aq_ (mdO_sub MO.out hf1); clear hx1 hs1 hb1 hf1))
 all_goals (refine bodyPost_ret (ret_Mt rfl (g := gr) rfl rfl XF.out) rfl ?_; exact ⟨_, _, _, _, by rw [HE.out]; rfl, by rw [HE.out]; exact MF.out, BF.out⟩)
set_option maxHeartbeats 8000000 in
theorem step_3 (M : Mdl) (a : Ac) (vU vT vK vD vA : Value) (w : World) (rq : Nat → Prop) (hq : ∀ k, rq k → k < w.heap.size) (hm : MdO w rq M vU vT vK vD) (hs : smallM M) (hX : wfS a.X) (hW : wfF a.F) (hS : ∀ x ∈ M.T, wfS x) (hA : Told k24 w vA a.T.f2) (hy : mayM M = true) (hk : a.kind = 2) :
  Calls Tryz.prog 12 #[.agg (mca M vU vT vK vD), .agg (aca a vA)] w fun e w' => ∃ vU' vT' vK' vD', e = .returned (.tuple #[.agg (mca (stepM M a).1 vU' vT' vK' vD'), .int .i64 (stepM M a).2]) ∧ MdO w' rq (stepM M a).1 vU' vT' vK' vD' ∧ Below w.heap.size w w' := by
 have HE := aq_ (show stepM M a = ({ M with now := if 1073741824 < M.now + 1 then 1073741824 else M.now + 1 }, 0) by unfold stepM; rw [if_neg (by rw [hy]; decide), if_neg (by omega), if_neg (by omega), if_pos hk])
 have HY := aq_ hy
 clear hy
 have hwr : IntKind.i64.wrap (M.now + 1) = M.now + 1 := by have := mayM_now HY.out; exact wi64 (by omega) (by omega)
 have q0 : (a.kind == 0) = false := by simp [hk]
 have q1 : (a.kind == 1) = false := by simp [hk]
 have q2 : (a.kind == 2) = true := by simp [hk]
 clear hk
 have HM := aq_ hm
 have HQ := aq_ hq
 have HSM := aq_ hs
 have SK := aq_ (show M.K.length < 1000000 from hs.1.2.2.1)
 have STL := aq_ (show M.T.length < 1000000 from hs.1.2.1)
 have SD := aq_ (show M.D.length < 1000000 from hs.1.2.2.2)
 have HX := aq_ hX
 have HW := aq_ hW
 have HS := aq_ hS
 have TA := aq_ hA
 clear hm hq hs hX hW hS hA
 go_enter Tryz.func12, Tryz.ntmps12
 go_upto_region 1 with (first
  | ((with_reducible refine box_Mo (.tmp 0) (M := M) (vU := vU) (vT := vT) (vK := vK) (vD := vD) rfl rfl rfl ?_); intro gm hgm w1 hbox hb; have B3 := aq_ hb; have L3 := aq_ hb.size; have XM := aq_ hbox; replace TA := aq_ (told_belowG TA.out hb); clear hgm hbox hb)
  | ((with_reducible refine box_Ac (.tmp 1) (x := a) (v := vA) rfl rfl rfl ?_); intro ga hga w2 hbox hb; have AB := aq_ hbox; replace XM := aq_ (blk_below XM.out hb); replace TA := aq_ (told_belowG TA.out hb); replace B3 := aq_ (B3.out.trans (hb.mono L3.out)); replace L3 := aq_ (Nat.le_trans L3.out hb.size); clear hga hbox hb)
  | ((with_reducible refine alloc_Mo rfl rfl ?_); intro gr hgr w3 hbox hb; have GR := aq_ (show w.heap.size ≤ gr by have := L3.out; omega); have XR := aq_ hbox; replace XM := aq_ (blk_below XM.out hb); replace AB := aq_ (blk_below AB.out hb); replace TA := aq_ (told_belowG TA.out hb); replace B3 := aq_ (B3.out.trans (hb.mono L3.out)); replace L3 := aq_ (Nat.le_trans L3.out hb.size); clear hgr hbox hb))
 have HO := aq_ (mdO_add HM.out B3.out GR.out)
 have GRL := aq_ (show ∀ k, rq k ∨ k = gr → k < w3.heap.size from fun k hk => hk.elim (fun h => Nat.lt_of_lt_of_le (HQ.out k h) L3.out) (fun h => by rw [h]; exact blk_lt XR.out))
 go_upto_region 18 with (first
  | (with_reducible refine load_Mo (.tmp 2) rfl rfl rfl XM.out ?_)
  | ((go_at_call 25; (with_reducible refine (sown_any M vU vT vK vD _ (fun k => rq k ∨ k = gr) GRL.out HO.out HSM.out).mono ?_)); rintro e w4 ⟨vU', vT', vK', vD', rfl, hO, hb⟩; obtain ⟨⟨B1, d1, rfl⟩, ⟨B2, d2, rfl⟩, ⟨B3_, d3, rfl⟩, ⟨B4, d4, rfl⟩⟩ := mdC_slices (ownM_told hO); have OW := aq_ hO; have C4 := aq_ hb; clear hO hb)
  | ((with_reducible refine alloc_Mo rfl rfl ?_); intro gO hgO w5 hbox hb; have XZ := aq_ hbox; have D4 := aq_ hb; have GO4 := aq_ (show w4.heap.size ≤ gO by omega); clear hgO hbox hb)
  | ((with_reducible refine store_Mo (.tmp 6) (.tmp 10) rfl rfl rfl rfl rfl rfl rfl rfl rfl rfl XZ.out ?_); intro w6 hx1 hs1 hb1 hf1; have D6 := aq_ (hb1 _ _ GO4.out D4.out); have MB := aq_ (mbox_of OW.out D6.out GO4.out C4.out.size hx1); have HB := aq_ (C4.out.trans (D6.out.mono C4.out.size)); have LB := aq_ (show w3.heap.size ≤ w6.heap.size from Nat.le_trans C4.out.size D6.out.size); clear OW C4 XZ D4 D6 GO4 hx1 hs1 hb1 hf1)
  | (with_reducible refine load_Mo (.tmp 2) rfl rfl rfl (blk_below XM.out HB.out) ?_)
  | ((go_at_call 22; (with_reducible refine (mayM_any M vU vT vK vD _ (mdO_told (mdO_below HO.out HB.out))).mono ?_)); rintro e w7 ⟨he_, hb⟩; rw [HY.out] at he_; subst he_; replace MB := aq_ (mbox_below MB.out hb); replace HB := aq_ (HB.out.trans (hb.mono LB.out)); replace LB := aq_ (Nat.le_trans LB.out hb.size); have XO := aq_ MB.out.1; have MO := aq_ (mbox_mdo MB.out); have c0 := cellsA_kind (blk_below AB.out HB.out); have c2 : w7.cell? ⟨gO, 2, none⟩ = some (.slice B2 M.T.length d2) := blk_cell MB.out.1 2; have c3 : w7.cell? ⟨gO, 3, none⟩ = some (.int .i64 M.epoch) := blk_cell MB.out.1 3; have c4 : w7.cell? ⟨gO, 4, none⟩ = some (.int .i64 M.now) := blk_cell MB.out.1 4; have z2 := blk_frozen MB.out.1 2; have z3 := blk_frozen MB.out.1 3; have z4 := blk_frozen MB.out.1 4; clear hb))
 obtain ⟨wS, hwS⟩ : ∃ wS, wS = w7.setCell ⟨gO, 4, none⟩ (.int .i64 (if 1073741824 < M.now + 1 then 1073741824 else M.now + 1)) := ⟨_, rfl⟩
 have MB' := aq_ (show MBox wS w3.heap.size gO (fun k => rq k ∨ k = gr) ({ M with now := if 1073741824 < M.now + 1 then 1073741824 else M.now + 1 }) _ _ _ _ by rw [hwS]; exact mbox_setN MB.out 4 _ rfl rfl rfl rfl rfl)
 have HB' := aq_ (show Below w3.heap.size w3 wS by rw [hwS]; exact HB.out.setCell (p := ⟨gO, 4, none⟩) MB.out.2.1 _)
 rw [← hwS]
 clear MB HB XO MO c0 c2 c3 c4 z2 z3 z4 hwS
 have MB := MB'
 have HB := HB'
 clear MB' HB'
 have XO := aq_ MB.out.1
 have MO := aq_ (mbox_mdo MB.out)
 go_wp2_with (first
  | (with_reducible refine load_Mo (.tmp 6) rfl rfl rfl XO.out ?_)
  | ((with_reducible refine store_Mo (.tmp 4) (.tmp 49) rfl rfl rfl rfl rfl rfl rfl rfl rfl rfl (blk_below XR.out HB.out) ?_); intro wF hx1 hs1 hb1 hf1; have XF := aq_ hx1; have BF := aq_ (hb1 _ _ GR.out (B3.out.trans (HB.out.mono L3.out))); have MF := aq_ (mdO_sub MO.out hf1); clear hx1 hs1 hb1 hf1))
 all_goals (refine bodyPost_ret (ret_Mt rfl (g := gr) rfl rfl XF.out) rfl ?_; exact ⟨_, _, _, _, by rw [HE.out]; rfl, by rw [HE.out]; exact MF.out, BF.out⟩)
set_option maxHeartbeats 8000000 in
theorem step_4 (M : Mdl) (a : Ac) (vU vT vK vD vA : Value) (w : World) (rq : Nat → Prop) (hq : ∀ k, rq k → k < w.heap.size) (hm : MdO w rq M vU vT vK vD) (hs : smallM M) (hX : wfS a.X) (hW : wfF a.F) (hS : ∀ x ∈ M.T, wfS x) (hA : Told k24 w vA a.T.f2) (hy : mayM M = true) (hk : a.kind = 3) (he : M.epoch = 1073741824) :
  Calls Tryz.prog 12 #[.agg (mca M vU vT vK vD), .agg (aca a vA)] w fun e w' => ∃ vU' vT' vK' vD', e = .returned (.tuple #[.agg (mca (stepM M a).1 vU' vT' vK' vD'), .int .i64 (stepM M a).2]) ∧ MdO w' rq (stepM M a).1 vU' vT' vK' vD' ∧ Below w.heap.size w w' := by
 have HE := aq_ (show stepM M a = (M, 12) by unfold stepM; rw [if_neg (by rw [hy]; decide), if_neg (by omega), if_neg (by omega), if_neg (by omega), if_pos hk, if_pos he])
 have HY := aq_ hy
 clear hy
 have q0 : (a.kind == 0) = false := by simp [hk]
 have q1 : (a.kind == 1) = false := by simp [hk]
 have q2 : (a.kind == 2) = false := by simp [hk]
 have q3 : (a.kind == 3) = true := by simp [hk]
 clear hk
 have qe : (M.epoch == 1073741824) = true := by simp [he]
 clear he
 have HM := aq_ hm
 have HQ := aq_ hq
 have HSM := aq_ hs
 have SK := aq_ (show M.K.length < 1000000 from hs.1.2.2.1)
 have STL := aq_ (show M.T.length < 1000000 from hs.1.2.1)
 have SD := aq_ (show M.D.length < 1000000 from hs.1.2.2.2)
 have HX := aq_ hX
 have HW := aq_ hW
 have HS := aq_ hS
 have TA := aq_ hA
 clear hm hq hs hX hW hS hA
 go_enter Tryz.func12, Tryz.ntmps12
 go_upto_region 1 with (first
  | ((with_reducible refine box_Mo (.tmp 0) (M := M) (vU := vU) (vT := vT) (vK := vK) (vD := vD) rfl rfl rfl ?_); intro gm hgm w1 hbox hb; have B3 := aq_ hb; have L3 := aq_ hb.size; have XM := aq_ hbox; replace TA := aq_ (told_belowG TA.out hb); clear hgm hbox hb)
  | ((with_reducible refine box_Ac (.tmp 1) (x := a) (v := vA) rfl rfl rfl ?_); intro ga hga w2 hbox hb; have AB := aq_ hbox; replace XM := aq_ (blk_below XM.out hb); replace TA := aq_ (told_belowG TA.out hb); replace B3 := aq_ (B3.out.trans (hb.mono L3.out)); replace L3 := aq_ (Nat.le_trans L3.out hb.size); clear hga hbox hb)
  | ((with_reducible refine alloc_Mo rfl rfl ?_); intro gr hgr w3 hbox hb; have GR := aq_ (show w.heap.size ≤ gr by have := L3.out; omega); have XR := aq_ hbox; replace XM := aq_ (blk_below XM.out hb); replace AB := aq_ (blk_below AB.out hb); replace TA := aq_ (told_belowG TA.out hb); replace B3 := aq_ (B3.out.trans (hb.mono L3.out)); replace L3 := aq_ (Nat.le_trans L3.out hb.size); clear hgr hbox hb))
 have HO := aq_ (mdO_add HM.out B3.out GR.out)
 have GRL := aq_ (show ∀ k, rq k ∨ k = gr → k < w3.heap.size from fun k hk => hk.elim (fun h => Nat.lt_of_lt_of_le (HQ.out k h) L3.out) (fun h => by rw [h]; exact blk_lt XR.out))
 go_wp2_with (first
  | (with_reducible refine load_Mo (.tmp 2) rfl rfl rfl XM.out ?_)
  | ((go_at_call 25; (with_reducible refine (sown_any M vU vT vK vD _ (fun k => rq k ∨ k = gr) GRL.out HO.out HSM.out).mono ?_)); rintro e w4 ⟨vU', vT', vK', vD', rfl, hO, hb⟩; obtain ⟨⟨B1, d1, rfl⟩, ⟨B2, d2, rfl⟩, ⟨B3_, d3, rfl⟩, ⟨B4, d4, rfl⟩⟩ := mdC_slices (ownM_told hO); have OW := aq_ hO; have C4 := aq_ hb; clear hO hb)
  | ((with_reducible refine alloc_Mo rfl rfl ?_); intro gO hgO w5 hbox hb; have XZ := aq_ hbox; have D4 := aq_ hb; have GO4 := aq_ (show w4.heap.size ≤ gO by omega); clear hgO hbox hb)
  | ((with_reducible refine store_Mo (.tmp 6) (.tmp 10) rfl rfl rfl rfl rfl rfl rfl rfl rfl rfl XZ.out ?_); intro w6 hx1 hs1 hb1 hf1; have D6 := aq_ (hb1 _ _ GO4.out D4.out); have MB := aq_ (mbox_of OW.out D6.out GO4.out C4.out.size hx1); have HB := aq_ (C4.out.trans (D6.out.mono C4.out.size)); have LB := aq_ (show w3.heap.size ≤ w6.heap.size from Nat.le_trans C4.out.size D6.out.size); clear OW C4 XZ D4 D6 GO4 hx1 hs1 hb1 hf1)
  | (with_reducible refine load_Mo (.tmp 2) rfl rfl rfl (blk_below XM.out HB.out) ?_)
  | ((go_at_call 22; (with_reducible refine (mayM_any M vU vT vK vD _ (mdO_told (mdO_below HO.out HB.out))).mono ?_)); rintro e w7 ⟨he_, hb⟩; rw [HY.out] at he_; subst he_; replace MB := aq_ (mbox_below MB.out hb); replace HB := aq_ (HB.out.trans (hb.mono LB.out)); replace LB := aq_ (Nat.le_trans LB.out hb.size); have XO := aq_ MB.out.1; have MO := aq_ (mbox_mdo MB.out); have c0 := cellsA_kind (blk_below AB.out HB.out); have c2 : w7.cell? ⟨gO, 2, none⟩ = some (.slice B2 M.T.length d2) := blk_cell MB.out.1 2; have c3 : w7.cell? ⟨gO, 3, none⟩ = some (.int .i64 M.epoch) := blk_cell MB.out.1 3; have c4 : w7.cell? ⟨gO, 4, none⟩ = some (.int .i64 M.now) := blk_cell MB.out.1 4; have z2 := blk_frozen MB.out.1 2; have z3 := blk_frozen MB.out.1 3; have z4 := blk_frozen MB.out.1 4; clear hb)
  | (with_reducible refine load_Mo (.tmp 6) rfl rfl rfl XO.out ?_)
  | ((with_reducible refine store_Mo (.tmp 4) (.tmp 42) rfl rfl rfl rfl rfl rfl rfl rfl rfl rfl (blk_below XR.out HB.out) ?_); intro wF hx1 hs1 hb1 hf1; have XF := aq_ hx1; have BF := aq_ (hb1 _ _ GR.out (B3.out.trans (HB.out.mono L3.out))); have MF := aq_ (mdO_sub MO.out hf1); clear hx1 hs1 hb1 hf1))
 all_goals (refine bodyPost_ret (ret_Mt rfl (g := gr) rfl rfl XF.out) rfl ?_; exact ⟨_, _, _, _, by rw [HE.out]; rfl, by rw [HE.out]; exact MF.out, BF.out⟩)
set_option maxHeartbeats 8000000 in
theorem step_5 (M : Mdl) (a : Ac) (vU vT vK vD vA : Value) (w : World) (rq : Nat → Prop) (hq : ∀ k, rq k → k < w.heap.size) (hm : MdO w rq M vU vT vK vD) (hs : smallM M) (hX : wfS a.X) (hW : wfF a.F) (hS : ∀ x ∈ M.T, wfS x) (hA : Told k24 w vA a.T.f2) (hy : mayM M = true) (hk : a.kind = 3) (he : ¬ M.epoch = 1073741824) :
  Calls Tryz.prog 12 #[.agg (mca M vU vT vK vD), .agg (aca a vA)] w fun e w' => ∃ vU' vT' vK' vD', e = .returned (.tuple #[.agg (mca (stepM M a).1 vU' vT' vK' vD'), .int .i64 (stepM M a).2]) ∧ MdO w' rq (stepM M a).1 vU' vT' vK' vD' ∧ Below w.heap.size w w' := by
 have HE := aq_ (show stepM M a = ({ M with epoch := M.epoch + 1, now := 0, T := [] }, 0) by unfold stepM; rw [if_neg (by rw [hy]; decide), if_neg (by omega), if_neg (by omega), if_neg (by omega), if_pos hk, if_neg he])
 have HY := aq_ hy
 clear hy
 have hwr : IntKind.i64.wrap (M.epoch + 1) = M.epoch + 1 := by have := mayM_now HY.out; exact wi64 (by omega) (by omega)
 have qe : (M.epoch == 1073741824) = false := by simpa using he
 clear he
 have q0 : (a.kind == 0) = false := by simp [hk]
 have q1 : (a.kind == 1) = false := by simp [hk]
 have q2 : (a.kind == 2) = false := by simp [hk]
 have q3 : (a.kind == 3) = true := by simp [hk]
 clear hk
 have HM := aq_ hm
 have HQ := aq_ hq
 have HSM := aq_ hs
 have SK := aq_ (show M.K.length < 1000000 from hs.1.2.2.1)
 have STL := aq_ (show M.T.length < 1000000 from hs.1.2.1)
 have SD := aq_ (show M.D.length < 1000000 from hs.1.2.2.2)
 have HX := aq_ hX
 have HW := aq_ hW
 have HS := aq_ hS
 have TA := aq_ hA
 clear hm hq hs hX hW hS hA
 go_enter Tryz.func12, Tryz.ntmps12
 go_upto_region 1 with (first
  | ((with_reducible refine box_Mo (.tmp 0) (M := M) (vU := vU) (vT := vT) (vK := vK) (vD := vD) rfl rfl rfl ?_); intro gm hgm w1 hbox hb; have B3 := aq_ hb; have L3 := aq_ hb.size; have XM := aq_ hbox; replace TA := aq_ (told_belowG TA.out hb); clear hgm hbox hb)
  | ((with_reducible refine box_Ac (.tmp 1) (x := a) (v := vA) rfl rfl rfl ?_); intro ga hga w2 hbox hb; have AB := aq_ hbox; replace XM := aq_ (blk_below XM.out hb); replace TA := aq_ (told_belowG TA.out hb); replace B3 := aq_ (B3.out.trans (hb.mono L3.out)); replace L3 := aq_ (Nat.le_trans L3.out hb.size); clear hga hbox hb)
  | ((with_reducible refine alloc_Mo rfl rfl ?_); intro gr hgr w3 hbox hb; have GR := aq_ (show w.heap.size ≤ gr by have := L3.out; omega); have XR := aq_ hbox; replace XM := aq_ (blk_below XM.out hb); replace AB := aq_ (blk_below AB.out hb); replace TA := aq_ (told_belowG TA.out hb); replace B3 := aq_ (B3.out.trans (hb.mono L3.out)); replace L3 := aq_ (Nat.le_trans L3.out hb.size); clear hgr hbox hb))
 have HO := aq_ (mdO_add HM.out B3.out GR.out)
 have GRL := aq_ (show ∀ k, rq k ∨ k = gr → k < w3.heap.size from fun k hk => hk.elim (fun h => Nat.lt_of_lt_of_le (HQ.out k h) L3.out) (fun h => by rw [h]; exact blk_lt XR.out))
 go_upto_region 18 with (first
  | (with_reducible refine load_Mo (.tmp 2) rfl rfl rfl XM.out ?_)
  | ((go_at_call 25; (with_reducible refine (sown_any M vU vT vK vD _ (fun k => rq k ∨ k = gr) GRL.out HO.out HSM.out).mono ?_)); rintro e w4 ⟨vU', vT', vK', vD', rfl, hO, hb⟩; obtain ⟨⟨B1, d1, rfl⟩, ⟨B2, d2, rfl⟩, ⟨B3_, d3, rfl⟩, ⟨B4, d4, rfl⟩⟩ := mdC_slices (ownM_told hO); have OW := aq_ hO; have C4 := aq_ hb; clear hO hb)
  | ((with_reducible refine alloc_Mo rfl rfl ?_); intro gO hgO w5 hbox hb; have XZ := aq_ hbox; have D4 := aq_ hb; have GO4 := aq_ (show w4.heap.size ≤ gO by omega); clear hgO hbox hb)
  | ((with_reducible refine store_Mo (.tmp 6) (.tmp 10) rfl rfl rfl rfl rfl rfl rfl rfl rfl rfl XZ.out ?_); intro w6 hx1 hs1 hb1 hf1; have D6 := aq_ (hb1 _ _ GO4.out D4.out); have MB := aq_ (mbox_of OW.out D6.out GO4.out C4.out.size hx1); have HB := aq_ (C4.out.trans (D6.out.mono C4.out.size)); have LB := aq_ (show w3.heap.size ≤ w6.heap.size from Nat.le_trans C4.out.size D6.out.size); clear OW C4 XZ D4 D6 GO4 hx1 hs1 hb1 hf1)
  | (with_reducible refine load_Mo (.tmp 2) rfl rfl rfl (blk_below XM.out HB.out) ?_)
  | ((go_at_call 22; (with_reducible refine (mayM_any M vU vT vK vD _ (mdO_told (mdO_below HO.out HB.out))).mono ?_)); rintro e w7 ⟨he_, hb⟩; rw [HY.out] at he_; subst he_; replace MB := aq_ (mbox_below MB.out hb); replace HB := aq_ (HB.out.trans (hb.mono LB.out)); replace LB := aq_ (Nat.le_trans LB.out hb.size); have XO := aq_ MB.out.1; have MO := aq_ (mbox_mdo MB.out); have c0 := cellsA_kind (blk_below AB.out HB.out); have c2 : w7.cell? ⟨gO, 2, none⟩ = some (.slice B2 M.T.length d2) := blk_cell MB.out.1 2; have c3 : w7.cell? ⟨gO, 3, none⟩ = some (.int .i64 M.epoch) := blk_cell MB.out.1 3; have c4 : w7.cell? ⟨gO, 4, none⟩ = some (.int .i64 M.now) := blk_cell MB.out.1 4; have z2 := blk_frozen MB.out.1 2; have z3 := blk_frozen MB.out.1 3; have z4 := blk_frozen MB.out.1 4; clear hb))
 obtain ⟨wS, hwS⟩ : ∃ wS, wS = ((w7.setCell ⟨gO, 3, none⟩ (.int .i64 (M.epoch + 1))).setCell ⟨gO, 4, none⟩ (.int .i64 0)).setCell ⟨gO, 2, none⟩ (.slice none 0 0) := ⟨_, rfl⟩
 have MB' := aq_ (show MBox wS w3.heap.size gO (fun k => rq k ∨ k = gr) ({ M with epoch := M.epoch + 1, now := 0, T := [] }) _ _ _ _ by rw [hwS]; exact mbox_setT (mbox_setN (M' := { M with epoch := M.epoch + 1, now := 0 }) (mbox_setN (M' := { M with epoch := M.epoch + 1 }) MB.out 3 _ rfl rfl rfl rfl rfl) 4 _ rfl rfl rfl rfl rfl) (P := fun _ => False) nilS (fun _ h => h.elim))
 have HB' := aq_ (show Below w3.heap.size w3 wS by rw [hwS]; exact ((HB.out.setCell (p := ⟨gO, 3, none⟩) MB.out.2.1 _).setCell (p := ⟨gO, 4, none⟩) MB.out.2.1 _).setCell (p := ⟨gO, 2, none⟩) MB.out.2.1 _)
 rw [← hwS]
 clear MB HB XO MO c0 c2 c3 c4 z2 z3 z4 hwS
 have MB := MB'
 have HB := HB'
 clear MB' HB'
 have XO := aq_ MB.out.1
 have MO := aq_ (mbox_mdo MB.out)
 go_wp2_with (first
  | (with_reducible refine load_Mo (.tmp 6) rfl rfl rfl XO.out ?_)
  | ((with_reducible refine store_Mo (.tmp 4) (.tmp 49) rfl rfl rfl rfl rfl rfl rfl rfl rfl rfl (blk_below XR.out HB.out) ?_); intro wF hx1 hs1 hb1 hf1; have XF := aq_ hx1; have BF := aq_ (hb1 _ _ GR.out (B3.out.trans (HB.out.mono L3.out))); have MF := aq_ (mdO_sub MO.out hf1); clear hx1 hs1 hb1 hf1))
 all_goals (refine bodyPost_ret (ret_Mt rfl (g := gr) rfl rfl XF.out) rfl ?_; exact ⟨_, _, _, _, by rw [HE.out]; rfl, by rw [HE.out]; exact MF.out, BF.out⟩)
set_option maxHeartbeats 8000000 in
theorem step_6 (M : Mdl) (a : Ac) (vU vT vK vD vA : Value) (w : World) (rq : Nat → Prop) (hq : ∀ k, rq k → k < w.heap.size) (hm : MdO w rq M vU vT vK vD) (hs : smallM M) (hX : wfS a.X) (hW : wfF a.F) (hS : ∀ x ∈ M.T, wfS x) (hA : Told k24 w vA a.T.f2) (hy : mayM M = true) (k0 : ¬ a.kind = 0) (k1 : ¬ a.kind = 1) (k2 : ¬ a.kind = 2) (k3 : ¬ a.kind = 3) :
  Calls Tryz.prog 12 #[.agg (mca M vU vT vK vD), .agg (aca a vA)] w fun e w' => ∃ vU' vT' vK' vD', e = .returned (.tuple #[.agg (mca (stepM M a).1 vU' vT' vK' vD'), .int .i64 (stepM M a).2]) ∧ MdO w' rq (stepM M a).1 vU' vT' vK' vD' ∧ Below w.heap.size w w' := by
 have HE := aq_ (show stepM M a = (M, 1) by unfold stepM; rw [if_neg (by rw [hy]; decide), if_neg k0, if_neg k1, if_neg k2, if_neg k3])
 have HY := aq_ hy
 clear hy
 have q0 : (a.kind == 0) = false := by simpa using k0
 have q1 : (a.kind == 1) = false := by simpa using k1
 have q2 : (a.kind == 2) = false := by simpa using k2
 have q3 : (a.kind == 3) = false := by simpa using k3
 clear k0 k1 k2 k3
 have HM := aq_ hm
 have HQ := aq_ hq
 have HSM := aq_ hs
 have SK := aq_ (show M.K.length < 1000000 from hs.1.2.2.1)
 have STL := aq_ (show M.T.length < 1000000 from hs.1.2.1)
 have SD := aq_ (show M.D.length < 1000000 from hs.1.2.2.2)
 have HX := aq_ hX
 have HW := aq_ hW
 have HS := aq_ hS
 have TA := aq_ hA
 clear hm hq hs hX hW hS hA
 go_enter Tryz.func12, Tryz.ntmps12
 go_upto_region 1 with (first
  | ((with_reducible refine box_Mo (.tmp 0) (M := M) (vU := vU) (vT := vT) (vK := vK) (vD := vD) rfl rfl rfl ?_); intro gm hgm w1 hbox hb; have B3 := aq_ hb; have L3 := aq_ hb.size; have XM := aq_ hbox; replace TA := aq_ (told_belowG TA.out hb); clear hgm hbox hb)
  | ((with_reducible refine box_Ac (.tmp 1) (x := a) (v := vA) rfl rfl rfl ?_); intro ga hga w2 hbox hb; have AB := aq_ hbox; replace XM := aq_ (blk_below XM.out hb); replace TA := aq_ (told_belowG TA.out hb); replace B3 := aq_ (B3.out.trans (hb.mono L3.out)); replace L3 := aq_ (Nat.le_trans L3.out hb.size); clear hga hbox hb)
  | ((with_reducible refine alloc_Mo rfl rfl ?_); intro gr hgr w3 hbox hb; have GR := aq_ (show w.heap.size ≤ gr by have := L3.out; omega); have XR := aq_ hbox; replace XM := aq_ (blk_below XM.out hb); replace AB := aq_ (blk_below AB.out hb); replace TA := aq_ (told_belowG TA.out hb); replace B3 := aq_ (B3.out.trans (hb.mono L3.out)); replace L3 := aq_ (Nat.le_trans L3.out hb.size); clear hgr hbox hb))
 have HO := aq_ (mdO_add HM.out B3.out GR.out)
 have GRL := aq_ (show ∀ k, rq k ∨ k = gr → k < w3.heap.size from fun k hk => hk.elim (fun h => Nat.lt_of_lt_of_le (HQ.out k h) L3.out) (fun h => by rw [h]; exact blk_lt XR.out))
 go_wp2_with (first
  | (with_reducible refine load_Mo (.tmp 2) rfl rfl rfl XM.out ?_)
  | ((go_at_call 25; (with_reducible refine (sown_any M vU vT vK vD _ (fun k => rq k ∨ k = gr) GRL.out HO.out HSM.out).mono ?_)); rintro e w4 ⟨vU', vT', vK', vD', rfl, hO, hb⟩; obtain ⟨⟨B1, d1, rfl⟩, ⟨B2, d2, rfl⟩, ⟨B3_, d3, rfl⟩, ⟨B4, d4, rfl⟩⟩ := mdC_slices (ownM_told hO); have OW := aq_ hO; have C4 := aq_ hb; clear hO hb)
  | ((with_reducible refine alloc_Mo rfl rfl ?_); intro gO hgO w5 hbox hb; have XZ := aq_ hbox; have D4 := aq_ hb; have GO4 := aq_ (show w4.heap.size ≤ gO by omega); clear hgO hbox hb)
  | ((with_reducible refine store_Mo (.tmp 6) (.tmp 10) rfl rfl rfl rfl rfl rfl rfl rfl rfl rfl XZ.out ?_); intro w6 hx1 hs1 hb1 hf1; have D6 := aq_ (hb1 _ _ GO4.out D4.out); have MB := aq_ (mbox_of OW.out D6.out GO4.out C4.out.size hx1); have HB := aq_ (C4.out.trans (D6.out.mono C4.out.size)); have LB := aq_ (show w3.heap.size ≤ w6.heap.size from Nat.le_trans C4.out.size D6.out.size); clear OW C4 XZ D4 D6 GO4 hx1 hs1 hb1 hf1)
  | (with_reducible refine load_Mo (.tmp 2) rfl rfl rfl (blk_below XM.out HB.out) ?_)
  | ((go_at_call 22; (with_reducible refine (mayM_any M vU vT vK vD _ (mdO_told (mdO_below HO.out HB.out))).mono ?_)); rintro e w7 ⟨he_, hb⟩; rw [HY.out] at he_; subst he_; replace MB := aq_ (mbox_below MB.out hb); replace HB := aq_ (HB.out.trans (hb.mono LB.out)); replace LB := aq_ (Nat.le_trans LB.out hb.size); have XO := aq_ MB.out.1; have MO := aq_ (mbox_mdo MB.out); have c0 := cellsA_kind (blk_below AB.out HB.out); have c2 : w7.cell? ⟨gO, 2, none⟩ = some (.slice B2 M.T.length d2) := blk_cell MB.out.1 2; have c3 : w7.cell? ⟨gO, 3, none⟩ = some (.int .i64 M.epoch) := blk_cell MB.out.1 3; have c4 : w7.cell? ⟨gO, 4, none⟩ = some (.int .i64 M.now) := blk_cell MB.out.1 4; have z2 := blk_frozen MB.out.1 2; have z3 := blk_frozen MB.out.1 3; have z4 := blk_frozen MB.out.1 4; clear hb)
  | (with_reducible refine load_Mo (.tmp 6) rfl rfl rfl XO.out ?_)
  | ((with_reducible refine store_Mo (.tmp 4) (.tmp 17) rfl rfl rfl rfl rfl rfl rfl rfl rfl rfl (blk_below XR.out HB.out) ?_); intro wF hx1 hs1 hb1 hf1; have XF := aq_ hx1; have BF := aq_ (hb1 _ _ GR.out (B3.out.trans (HB.out.mono L3.out))); have MF := aq_ (mdO_sub MO.out hf1); clear hx1 hs1 hb1 hf1))
 all_goals (refine bodyPost_ret (ret_Mt rfl (g := gr) rfl rfl XF.out) rfl ?_; exact ⟨_, _, _, _, by rw [HE.out]; rfl, by rw [HE.out]; exact MF.out, BF.out⟩)
theorem step_any (M : Mdl) (a : Ac) (vU vT vK vD vA : Value) (w : World) (rq : Nat → Prop) (hq : ∀ k, rq k → k < w.heap.size) (hm : MdO w rq M vU vT vK vD) (hs : smallM M) (hX : wfS a.X) (hW : wfF a.F) (hS : ∀ x ∈ M.T, wfS x) (hA : Told k24 w vA a.T.f2) :
  Calls Tryz.prog 12 #[.agg (mca M vU vT vK vD), .agg (aca a vA)] w fun e w' => ∃ vU' vT' vK' vD', e = .returned (.tuple #[.agg (mca (stepM M a).1 vU' vT' vK' vD'), .int .i64 (stepM M a).2]) ∧ MdO w' rq (stepM M a).1 vU' vT' vK' vD' ∧ Below w.heap.size w w' := by
 cases hy : mayM M
 ·exact step_0 M a vU vT vK vD vA w rq hq hm hs hX hW hS hA hy
 by_cases k0 : a.kind = 0
 ·exact step_1 M a vU vT vK vD vA w rq hq hm hs hX hW hS hA hy k0
 by_cases k1 : a.kind = 1
 ·exact step_2 M a vU vT vK vD vA w rq hq hm hs hX hW hS hA hy k1
 by_cases k2 : a.kind = 2
 ·exact step_3 M a vU vT vK vD vA w rq hq hm hs hX hW hS hA hy k2
 by_cases k3 : a.kind = 3
 ·by_cases he : M.epoch = 1073741824
  ·exact step_4 M a vU vT vK vD vA w rq hq hm hs hX hW hS hA hy k3 he
  ·exact step_5 M a vU vT vK vD vA w rq hq hm hs hX hW hS hA hy k3 he
 ·exact step_6 M a vU vT vK vD vA w rq hq hm hs hX hW hS hA hy k0 k1 k2 k3
end Go.Proofs.YtdinphnljokigaaGreat.P
end
