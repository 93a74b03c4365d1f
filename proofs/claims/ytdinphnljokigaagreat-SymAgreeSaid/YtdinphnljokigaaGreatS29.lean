/- What LawSymAgree rests on, part 29: several texts put together. -/
import Derived.Test.YtdinphnljokigaaGreatS27
import Derived.Test.YtdinphnljokigaaGreatS3
set_option linter.unusedVariables false
set_option linter.unnecessarySimpa false
set_option linter.unusedSimpArgs false
set_option maxRecDepth 100000
section
namespace Go.Proofs.YtdinphnljokigaaGreat.P
open Go.RowKit Go.Lib Go.Proofs.YtdinphnljokigaaGreatW.PrintWords Go.Proofs.YtdinphnljokigaaGreatW.PrintLast Go.Proofs.YtdinphnljokigaaGreatW.PrintMore
set_option maxHeartbeats 4000000 in
theorem emit_0 (M : Mdl) (a : Ac) (vU vT vK vD vA : Value) (w0 w : World) (base g : Nat) (rb : Nat → Prop) (hm : MBox w base g rb M vU vT vK vD) (hB : Below base w0 w) (hb : base ≤ w.heap.size) (hd : wfS a.X) (hw : wfF a.F) (hK : M.K.length < 1000000) (t0 : findU M.U a.X.user = -1) :
  Calls Tryz.prog 28 #[.pointer (some ⟨g, 0, none⟩), .agg (aca a vA)] w fun e w' => ∃ vK', e = .returned (.int .i64 (emitM M a).2) ∧ w'.heap[g]? = some (.cells (mca (emitM M a).1 vU vT vK' vD) 42 (0, 0)) ∧ MdO w' rb (emitM M a).1 vU vT vK' vD ∧ Below base w0 w' := by
 have HE := aq_ (show emitM M a = (M, 5) by unfold emitM; rw [if_pos t0])
 have hq : (findU M.U a.X.user == -1) = true := by simpa using t0
 clear t0
 obtain ⟨⟨AU, cU, rfl⟩, ⟨AT, cT, rfl⟩, ⟨AK, cK, rfl⟩, ⟨AD, cD, rfl⟩⟩ := mbox_slices hm
 have MB := aq_ hm
 have HB := aq_ hB
 have LB := aq_ hb
 have HS := aq_ hd
 have HW := aq_ hw
 have KL := aq_ hK
 clear hm hB hb hd hw hK
 go_enter Tryz.func28, Tryz.ntmps28
 go_upto_region 1 with ((with_reducible refine box_Ac (.tmp 1) (x := a) (v := vA) rfl rfl rfl ?_); intro ga hg w1 hbox hb; have MB' := aq_ (mbox_below MB.out hb); have AB := aq_ hbox; have HB' := aq_ (HB.out.trans (hb.mono LB.out)); have LB' := aq_ (Nat.le_trans LB.out hb.size); clear hg hbox hb MB HB LB; have MB := MB'; have HB := HB'; have LB := LB'; clear MB' HB' LB')
 replace MB := aq_ (mbox_below MB.out (below_drew (Below.refl _ w1)))
 replace AB := aq_ (blk_drew AB.out)
 replace HB := aq_ (below_drew HB.out)
 replace LB := aq_ (show base ≤ w1.drew.heap.size from LB.out)
 refine start_ (n := 9) (S := fun w' => w'.cell? ⟨g, 0, none⟩ = some (.slice AU M.U.length cU) ∧ w'.cell? ⟨ga, 41, none⟩ = some (.int .i64 a.X.user)) (ds := []) #[false, false, false, false, false, false, false, false, false] (by kernel_rfl) rfl rfl ⟨blk_cell MB.out.1 0, (cellsA_X AB.out).1⟩ (fun hHeld => ?_)
 refine pz_ 0 (some 7) (bt_ 9 1) ?_
 refine pz_ 1 (some 8) (bt_ 9 3) ?_
 refine pz_ 2 (some 9) (bt_ 9 7) ?_
 refine pz_ 4 (some 11) (bt_ 9 23) ?_
 refine pz_ 5 (some 12) (bt_ 9 55) ?_
 refine tz_ 3 (some 10) (bt_ 9 63) hHeld ?_
 refine tz_ 6 (some 13) (bt_ 9 127) hHeld ?_
 refine gz_ 7 (some 14) (bt_ 9 255) Tryz.func34 #[.slice AU M.U.length cU, .int .i64 a.X.user] fun K hK => ?_
 with_reducible refine (ufind_any M.U AU cU a.X.user _ (mbox_U MB.out)).mono ?_
 rintro e wq ⟨rfl, hb_⟩
 refine ⟨_, rfl, ?_⟩
 replace MB := aq_ (mbox_below MB.out hb_)
 replace AB := aq_ (blk_below AB.out hb_)
 replace HB := aq_ (HB.out.trans (hb_.mono LB.out))
 replace LB := aq_ (Nat.le_trans LB.out hb_.size)
 clear hb_
 refine hK.out _ _ ⟨blk_cell MB.out.1 0, (cellsA_X AB.out).1⟩ (fun hHeld => ?_)
 clear hK K
 refine nz_ ?_
 refine pz_ 8 (some 15) (bt_ 9 511) ?_
 refine done_ (by kernel_rfl) ?_
 go_wp2
 go_ret
 exact ⟨_, by rw [HE.out]; rfl, by rw [HE.out]; exact MB.out.1, by rw [HE.out]; exact mbox_mdo MB.out, HB.out⟩
set_option maxHeartbeats 4000000 in
theorem emit_1 (M : Mdl) (a : Ac) (vU vT vK vD vA : Value) (w0 w : World) (base g : Nat) (rb : Nat → Prop) (hm : MBox w base g rb M vU vT vK vD) (hB : Below base w0 w) (hb : base ≤ w.heap.size) (hd : wfS a.X) (hw : wfF a.F) (hK : M.K.length < 1000000) (t0 : ¬ findU M.U a.X.user = -1) (t1 : isP a.X a.F = false) :
  Calls Tryz.prog 28 #[.pointer (some ⟨g, 0, none⟩), .agg (aca a vA)] w fun e w' => ∃ vK', e = .returned (.int .i64 (emitM M a).2) ∧ w'.heap[g]? = some (.cells (mca (emitM M a).1 vU vT vK' vD) 42 (0, 0)) ∧ MdO w' rb (emitM M a).1 vU vT vK' vD ∧ Below base w0 w' := by
 have HE := aq_ (show emitM M a = (M, 3) by unfold emitM; rw [if_neg t0, if_pos t1])
 have hq : (findU M.U a.X.user == -1) = false := by simpa using t0
 have T1 := aq_ t1
 clear t0 t1
 obtain ⟨⟨AU, cU, rfl⟩, ⟨AT, cT, rfl⟩, ⟨AK, cK, rfl⟩, ⟨AD, cD, rfl⟩⟩ := mbox_slices hm
 have MB := aq_ hm
 have HB := aq_ hB
 have LB := aq_ hb
 have HS := aq_ hd
 have HW := aq_ hw
 have KL := aq_ hK
 clear hm hB hb hd hw hK
 go_enter Tryz.func28, Tryz.ntmps28
 go_upto_region 1 with ((with_reducible refine box_Ac (.tmp 1) (x := a) (v := vA) rfl rfl rfl ?_); intro ga hg w1 hbox hb; have MB' := aq_ (mbox_below MB.out hb); have AB := aq_ hbox; have HB' := aq_ (HB.out.trans (hb.mono LB.out)); have LB' := aq_ (Nat.le_trans LB.out hb.size); clear hg hbox hb MB HB LB; have MB := MB'; have HB := HB'; have LB := LB'; clear MB' HB' LB')
 replace MB := aq_ (mbox_below MB.out (below_drew (Below.refl _ w1)))
 replace AB := aq_ (blk_drew AB.out)
 replace HB := aq_ (below_drew HB.out)
 replace LB := aq_ (show base ≤ w1.drew.heap.size from LB.out)
 refine start_ (n := 9) (S := fun w' => w'.cell? ⟨g, 0, none⟩ = some (.slice AU M.U.length cU) ∧ w'.cell? ⟨ga, 41, none⟩ = some (.int .i64 a.X.user)) (ds := []) #[false, false, false, false, false, false, false, false, false] (by kernel_rfl) rfl rfl ⟨blk_cell MB.out.1 0, (cellsA_X AB.out).1⟩ (fun hHeld => ?_)
 refine pz_ 0 (some 7) (bt_ 9 1) ?_
 refine pz_ 1 (some 8) (bt_ 9 3) ?_
 refine pz_ 2 (some 9) (bt_ 9 7) ?_
 refine pz_ 4 (some 11) (bt_ 9 23) ?_
 refine pz_ 5 (some 12) (bt_ 9 55) ?_
 refine tz_ 3 (some 10) (bt_ 9 63) hHeld ?_
 refine tz_ 6 (some 13) (bt_ 9 127) hHeld ?_
 refine gz_ 7 (some 14) (bt_ 9 255) Tryz.func34 #[.slice AU M.U.length cU, .int .i64 a.X.user] fun K hK => ?_
 with_reducible refine (ufind_any M.U AU cU a.X.user _ (mbox_U MB.out)).mono ?_
 rintro e wq ⟨rfl, hb_⟩
 refine ⟨_, rfl, ?_⟩
 replace MB := aq_ (mbox_below MB.out hb_)
 replace AB := aq_ (blk_below AB.out hb_)
 replace HB := aq_ (HB.out.trans (hb_.mono LB.out))
 replace LB := aq_ (Nat.le_trans LB.out hb_.size)
 clear hb_
 refine hK.out _ _ ⟨blk_cell MB.out.1 0, (cellsA_X AB.out).1⟩ (fun hHeld => ?_)
 clear hK K
 refine nz_ ?_
 refine pz_ 8 (some 15) (bt_ 9 511) ?_
 refine done_ (by kernel_rfl) ?_
 go_upto_region 4 with (first
  | (with_reducible refine load_S (.tmp 17) rfl rfl (p := ⟨ga, 41, none⟩) rfl (boxA_X AB.out) ?_)
  | (with_reducible refine load_F (.tmp 19) rfl rfl (p := ⟨ga, 1, none⟩) rfl (boxA_F AB.out) ?_)
  | ((go_at_call 18; (with_reducible refine (proof_any a.X a.F _ HS.out HW.out).mono ?_)); rw [T1.out]; rintro e w7 ⟨vp, rfl, hV, hb⟩; obtain ⟨Ap, cp, rfl⟩ := Kd.V_slice hV; have HV := aq_ hV; have MB' := aq_ (mbox_below MB.out hb); have HB' := aq_ (HB.out.trans (Below.mono hb LB.out)); have LB' := aq_ (Nat.le_trans LB.out (Below.size hb));  clear MB HB LB; have MB := MB'; have HB := HB'; have LB := LB'; clear MB' HB' LB'; clear hb hV))
 go_wp2
 go_ret
 exact ⟨_, by rw [HE.out]; rfl, by rw [HE.out]; exact blk_alloc MB.out.1 _, by rw [HE.out]; exact mdO_below (mbox_mdo MB.out) (below_alloc (Below.refl _ _) _), HB.out.alloc LB.out _⟩
set_option maxHeartbeats 4000000 in
theorem emit_2 (M : Mdl) (a : Ac) (vU vT vK vD vA : Value) (w0 w : World) (base g : Nat) (rb : Nat → Prop) (hm : MBox w base g rb M vU vT vK vD) (hB : Below base w0 w) (hb : base ≤ w.heap.size) (hd : wfS a.X) (hw : wfF a.F) (hK : M.K.length < 1000000) (t0 : ¬ findU M.U a.X.user = -1) (t1 : isP a.X a.F = true) (t2 : M.K.length = 40) :
  Calls Tryz.prog 28 #[.pointer (some ⟨g, 0, none⟩), .agg (aca a vA)] w fun e w' => ∃ vK', e = .returned (.int .i64 (emitM M a).2) ∧ w'.heap[g]? = some (.cells (mca (emitM M a).1 vU vT vK' vD) 42 (0, 0)) ∧ MdO w' rb (emitM M a).1 vU vT vK' vD ∧ Below base w0 w' := by
 have HE := aq_ (show emitM M a = (M, 12) by unfold emitM; rw [if_neg t0, if_neg (by rw [t1]; decide), if_pos t2])
 have hq : (findU M.U a.X.user == -1) = false := by simpa using t0
 have hlK : ((M.K.length : Int) == 40) = true := by simp [t2]
 clear t2
 have T1 := aq_ t1
 clear t0 t1
 obtain ⟨⟨AU, cU, rfl⟩, ⟨AT, cT, rfl⟩, ⟨AK, cK, rfl⟩, ⟨AD, cD, rfl⟩⟩ := mbox_slices hm
 have MB := aq_ hm
 have HB := aq_ hB
 have LB := aq_ hb
 have HS := aq_ hd
 have HW := aq_ hw
 have KL := aq_ hK
 clear hm hB hb hd hw hK
 go_enter Tryz.func28, Tryz.ntmps28
 go_upto_region 1 with ((with_reducible refine box_Ac (.tmp 1) (x := a) (v := vA) rfl rfl rfl ?_); intro ga hg w1 hbox hb; have MB' := aq_ (mbox_below MB.out hb); have AB := aq_ hbox; have HB' := aq_ (HB.out.trans (hb.mono LB.out)); have LB' := aq_ (Nat.le_trans LB.out hb.size); clear hg hbox hb MB HB LB; have MB := MB'; have HB := HB'; have LB := LB'; clear MB' HB' LB')
 replace MB := aq_ (mbox_below MB.out (below_drew (Below.refl _ w1)))
 replace AB := aq_ (blk_drew AB.out)
 replace HB := aq_ (below_drew HB.out)
 replace LB := aq_ (show base ≤ w1.drew.heap.size from LB.out)
 refine start_ (n := 9) (S := fun w' => w'.cell? ⟨g, 0, none⟩ = some (.slice AU M.U.length cU) ∧ w'.cell? ⟨ga, 41, none⟩ = some (.int .i64 a.X.user)) (ds := []) #[false, false, false, false, false, false, false, false, false] (by kernel_rfl) rfl rfl ⟨blk_cell MB.out.1 0, (cellsA_X AB.out).1⟩ (fun hHeld => ?_)
 refine pz_ 0 (some 7) (bt_ 9 1) ?_
 refine pz_ 1 (some 8) (bt_ 9 3) ?_
 refine pz_ 2 (some 9) (bt_ 9 7) ?_
 refine pz_ 4 (some 11) (bt_ 9 23) ?_
 refine pz_ 5 (some 12) (bt_ 9 55) ?_
 refine tz_ 3 (some 10) (bt_ 9 63) hHeld ?_
 refine tz_ 6 (some 13) (bt_ 9 127) hHeld ?_
 refine gz_ 7 (some 14) (bt_ 9 255) Tryz.func34 #[.slice AU M.U.length cU, .int .i64 a.X.user] fun K hK => ?_
 with_reducible refine (ufind_any M.U AU cU a.X.user _ (mbox_U MB.out)).mono ?_
 rintro e wq ⟨rfl, hb_⟩
 refine ⟨_, rfl, ?_⟩
 replace MB := aq_ (mbox_below MB.out hb_)
 replace AB := aq_ (blk_below AB.out hb_)
 replace HB := aq_ (HB.out.trans (hb_.mono LB.out))
 replace LB := aq_ (Nat.le_trans LB.out hb_.size)
 clear hb_
 refine hK.out _ _ ⟨blk_cell MB.out.1 0, (cellsA_X AB.out).1⟩ (fun hHeld => ?_)
 clear hK K
 refine nz_ ?_
 refine pz_ 8 (some 15) (bt_ 9 511) ?_
 refine done_ (by kernel_rfl) ?_
 have GQ := aq_ (blk_lt MB.out.1)
 have QN := aq_ (mbox_own MB.out)
 go_upto_region 6 with (first
  | (with_reducible refine load_S (.tmp 17) rfl rfl (p := ⟨ga, 41, none⟩) rfl (boxA_X AB.out) ?_)
  | (with_reducible refine load_F (.tmp 19) rfl rfl (p := ⟨ga, 1, none⟩) rfl (boxA_F AB.out) ?_)
  | ((go_at_call 18; (with_reducible refine (proof_any a.X a.F _ HS.out HW.out).mono ?_)); rw [T1.out]; rintro e w7 ⟨vp, rfl, hV, hb⟩; obtain ⟨Ap, cp, rfl⟩ := Kd.V_slice hV; have HV := aq_ hV; have MB' := aq_ (mbox_below MB.out hb); have HB' := aq_ (HB.out.trans (Below.mono hb LB.out)); have LB' := aq_ (Nat.le_trans LB.out (Below.size hb));  clear MB HB LB; have MB := MB'; have HB := HB'; have LB := LB'; clear MB' HB' LB'; have SQ := aq_ hb.size; clear hb hV))
 obtain ⟨gp, hgp⟩ : ∃ gp, gp = w7.heap.size := ⟨_, rfl⟩
 obtain ⟨wp, hwp⟩ : ∃ wp, wp = w7.alloc (.cells #[.int .i64 (proofT a.X a.F).f0, .int .i64 (proofT a.X a.F).f1, .slice Ap (proofT a.X a.F).f2.length cp] 36) := ⟨_, rfl⟩
 rw [← hwp, ← hgp]
 have PB := aq_ (show wp.heap[gp]? = some (.cells #[.int .i64 (proofT a.X a.F).f0, .int .i64 (proofT a.X a.F).f1, .slice Ap (proofT a.X a.F).f2.length cp] 36 (0, 0)) by rw [hwp, hgp]; exact blk_new _ _)
 have hbp : Below w7.heap.size w7 wp := by rw [hwp]; exact below_alloc (Below.refl _ _) _
 have hgq := GQ.out
 have GPS := aq_ (show wq.heap.size ≤ gp by rw [hgp]; exact SQ.out)
 clear hwp hgp
 have MB' := aq_ (mbox_below MB.out hbp); have HB' := aq_ (HB.out.trans (Below.mono hbp LB.out)); have LB' := aq_ (Nat.le_trans LB.out (Below.size hbp));  clear MB HB LB; have MB := MB'; have HB := HB'; have LB := LB'; clear MB' HB' LB'
 replace HV := aq_ (Kd.V_below HV.out hbp)
 clear hbp hgq
 have c5 : wp.cell? ⟨g, 5, none⟩ = some (.slice AK M.K.length cK) := blk_cell MB.out.1 5
 go_wp2
 go_ret
 exact ⟨_, by rw [HE.out]; rfl, by rw [HE.out]; exact MB.out.1, by rw [HE.out]; exact mbox_mdo MB.out, HB.out⟩
set_option maxHeartbeats 4000000 in
theorem emit_3 (M : Mdl) (a : Ac) (vU vT vK vD vA : Value) (w0 w : World) (base g : Nat) (rb : Nat → Prop) (hm : MBox w base g rb M vU vT vK vD) (hB : Below base w0 w) (hb : base ≤ w.heap.size) (hd : wfS a.X) (hw : wfF a.F) (hK : M.K.length < 1000000) (t0 : ¬ findU M.U a.X.user = -1) (t1 : isP a.X a.F = true) (t2 : ¬ M.K.length = 40) :
  Calls Tryz.prog 28 #[.pointer (some ⟨g, 0, none⟩), .agg (aca a vA)] w fun e w' => ∃ vK', e = .returned (.int .i64 (emitM M a).2) ∧ w'.heap[g]? = some (.cells (mca (emitM M a).1 vU vT vK' vD) 42 (0, 0)) ∧ MdO w' rb (emitM M a).1 vU vT vK' vD ∧ Below base w0 w' := by
 have HE := aq_ (show emitM M a = ({ M with K := M.K ++ [proofT a.X a.F] }, 0) by unfold emitM; rw [if_neg t0, if_neg (by rw [t1]; decide), if_neg t2])
 have hq : (findU M.U a.X.user == -1) = false := by simpa using t0
 have hlK : ((M.K.length : Int) == 40) = false := by simpa using (show ¬ ((M.K.length : Int) = 40) by omega)
 clear t2
 have T1 := aq_ t1
 clear t0 t1
 obtain ⟨⟨AU, cU, rfl⟩, ⟨AT, cT, rfl⟩, ⟨AK, cK, rfl⟩, ⟨AD, cD, rfl⟩⟩ := mbox_slices hm
 have MB := aq_ hm
 have HB := aq_ hB
 have LB := aq_ hb
 have HS := aq_ hd
 have HW := aq_ hw
 have KL := aq_ hK
 clear hm hB hb hd hw hK
 go_enter Tryz.func28, Tryz.ntmps28
 go_upto_region 1 with ((with_reducible refine box_Ac (.tmp 1) (x := a) (v := vA) rfl rfl rfl ?_); intro ga hg w1 hbox hb; have MB' := aq_ (mbox_below MB.out hb); have AB := aq_ hbox; have HB' := aq_ (HB.out.trans (hb.mono LB.out)); have LB' := aq_ (Nat.le_trans LB.out hb.size); clear hg hbox hb MB HB LB; have MB := MB'; have HB := HB'; have LB := LB'; clear MB' HB' LB')
 replace MB := aq_ (mbox_below MB.out (below_drew (Below.refl _ w1)))
 replace AB := aq_ (blk_drew AB.out)
 replace HB := aq_ (below_drew HB.out)
 replace LB := aq_ (show base ≤ w1.drew.heap.size from LB.out)
 refine start_ (n := 9) (S := fun w' => w'.cell? ⟨g, 0, none⟩ = some (.slice AU M.U.length cU) ∧ w'.cell? ⟨ga, 41, none⟩ = some (.int .i64 a.X.user)) (ds := []) #[false, false, false, false, false, false, false, false, false] (by kernel_rfl) rfl rfl ⟨blk_cell MB.out.1 0, (cellsA_X AB.out).1⟩ (fun hHeld => ?_)
 refine pz_ 0 (some 7) (bt_ 9 1) ?_
 refine pz_ 1 (some 8) (bt_ 9 3) ?_
 refine pz_ 2 (some 9) (bt_ 9 7) ?_
 refine pz_ 4 (some 11) (bt_ 9 23) ?_
 refine pz_ 5 (some 12) (bt_ 9 55) ?_
 refine tz_ 3 (some 10) (bt_ 9 63) hHeld ?_
 refine tz_ 6 (some 13) (bt_ 9 127) hHeld ?_
 refine gz_ 7 (some 14) (bt_ 9 255) Tryz.func34 #[.slice AU M.U.length cU, .int .i64 a.X.user] fun K hK => ?_
 with_reducible refine (ufind_any M.U AU cU a.X.user _ (mbox_U MB.out)).mono ?_
 rintro e wq ⟨rfl, hb_⟩
 refine ⟨_, rfl, ?_⟩
 replace MB := aq_ (mbox_below MB.out hb_)
 replace AB := aq_ (blk_below AB.out hb_)
 replace HB := aq_ (HB.out.trans (hb_.mono LB.out))
 replace LB := aq_ (Nat.le_trans LB.out hb_.size)
 clear hb_
 refine hK.out _ _ ⟨blk_cell MB.out.1 0, (cellsA_X AB.out).1⟩ (fun hHeld => ?_)
 clear hK K
 refine nz_ ?_
 refine pz_ 8 (some 15) (bt_ 9 511) ?_
 refine done_ (by kernel_rfl) ?_
 have GQ := aq_ (blk_lt MB.out.1)
 have QN := aq_ (mbox_own MB.out)
 go_upto_region 6 with (first
  | (with_reducible refine load_S (.tmp 17) rfl rfl (p := ⟨ga, 41, none⟩) rfl (boxA_X AB.out) ?_)
  | (with_reducible refine load_F (.tmp 19) rfl rfl (p := ⟨ga, 1, none⟩) rfl (boxA_F AB.out) ?_)
  | ((go_at_call 18; (with_reducible refine (proof_any a.X a.F _ HS.out HW.out).mono ?_)); rw [T1.out]; rintro e w7 ⟨vp, rfl, hV, hb⟩; obtain ⟨Ap, cp, rfl⟩ := Kd.V_slice hV; have HV := aq_ hV; have MB' := aq_ (mbox_below MB.out hb); have HB' := aq_ (HB.out.trans (Below.mono hb LB.out)); have LB' := aq_ (Nat.le_trans LB.out (Below.size hb));  clear MB HB LB; have MB := MB'; have HB := HB'; have LB := LB'; clear MB' HB' LB'; have SQ := aq_ hb.size; clear hb hV))
 obtain ⟨gp, hgp⟩ : ∃ gp, gp = w7.heap.size := ⟨_, rfl⟩
 obtain ⟨wp, hwp⟩ : ∃ wp, wp = w7.alloc (.cells #[.int .i64 (proofT a.X a.F).f0, .int .i64 (proofT a.X a.F).f1, .slice Ap (proofT a.X a.F).f2.length cp] 36) := ⟨_, rfl⟩
 rw [← hwp, ← hgp]
 have PB := aq_ (show wp.heap[gp]? = some (.cells #[.int .i64 (proofT a.X a.F).f0, .int .i64 (proofT a.X a.F).f1, .slice Ap (proofT a.X a.F).f2.length cp] 36 (0, 0)) by rw [hwp, hgp]; exact blk_new _ _)
 have hbp : Below w7.heap.size w7 wp := by rw [hwp]; exact below_alloc (Below.refl _ _) _
 have hgq := GQ.out
 have GPS := aq_ (show wq.heap.size ≤ gp by rw [hgp]; exact SQ.out)
 clear hwp hgp
 have MB' := aq_ (mbox_below MB.out hbp); have HB' := aq_ (HB.out.trans (Below.mono hbp LB.out)); have LB' := aq_ (Nat.le_trans LB.out (Below.size hbp));  clear MB HB LB; have MB := MB'; have HB := HB'; have LB := LB'; clear MB' HB' LB'
 replace HV := aq_ (Kd.V_below HV.out hbp)
 clear hbp hgq
 have c5 : wp.cell? ⟨g, 5, none⟩ = some (.slice AK M.K.length cK) := blk_cell MB.out.1 5
 go_upto_region 8 with (fail)
 clear c5
 replace MB := aq_ (mbox_below MB.out (below_drew (Below.refl _ wp)))
 replace PB := aq_ (blk_drew PB.out)
 replace HB := aq_ (below_drew HB.out)
 replace LB := aq_ (show base ≤ wp.drew.heap.size from LB.out)
 replace HV := aq_ (Kd.V_drew HV.out)
 have LQ := aq_ (show wq.heap.size ≤ wp.drew.heap.size from Nat.le_trans GPS.out (Nat.le_of_lt (blk_lt PB.out)))
 obtain ⟨hg0, hbg, PU, PT, PK, PD, h1, h2, h3, h4, h5, h6, n1, n2, n3, n4, nr⟩ := MB.out
 have NK := aq_ (Kd.N_mono h3 (ok' := fun k => PK k ∨ wq.heap.size ≤ k) fun k hk => Or.inl hk)
 have HBG := aq_ hbg
 have PG := aq_ (show ∀ k, PK k → k ≠ g ∧ ¬ rb k from fun k hk => ⟨fun e => n3 (e ▸ hk), fun e => (nr k e).2.2.2.1 hk⟩)
 have RL := aq_ (show ∀ k, rb k → k < base from fun k hk => (nr k hk).1)
 have GO := aq_ (show (Value.slice AK M.K.length cK).ownBlock ≠ some g from fun e => n3 (h3.1 g e))
 have GP := aq_ (show (Value.slice AK M.K.length cK).ownBlock ≠ some gp from fun e => QN.out gp e GPS.out)
 clear hg0 hbg h1 h2 h3 h4 h5 h6 n1 n2 n3 n4 nr
 have c0 : wp.drew.cell? ⟨g, 5, none⟩ = some (.slice AK M.K.length cK) := blk_cell MB.out.1 5
 obtain ⟨⟨k0, k1, k2⟩, _⟩ := cells3 PB.out
 refine start_ (n := 13) (S := fun w' => w'.cell? ⟨g, 5, none⟩ = some (.slice AK M.K.length cK) ∧ w'.cell? ⟨gp, 0, none⟩ = some (.int .i64 (proofT a.X a.F).f0) ∧ w'.cell? ⟨gp, 1, none⟩ = some (.int .i64 (proofT a.X a.F).f1) ∧ w'.cell? ⟨gp, 2, none⟩ = some (.slice Ap (proofT a.X a.F).f2.length cp)) (ds := [9, 12]) #[false, false, false, false, false, false, false, false, false, false, false, false, false] (by kernel_rfl) rfl rfl ⟨c0, k0, k1, k2⟩ (fun hHeld => ?_)
 refine pz_ 0 (some 32) (bt_ 13 1) ?_
 refine pz_ 1 (some 33) (bt_ 13 3) ?_
 refine pz_ 2 (some 34) (bt_ 13 7) ?_
 refine tz_ 3 (some 35) (bt_ 13 15) hHeld ?_
 refine pz_ 5 (some 37) (bt_ 13 47) ?_
 refine tz_ 4 (some 36) (bt_ 13 63) hHeld ?_
 refine one_ (i := 6) (N := some 38) (bt_ 13 127) rfl rfl (by kernel_rfl) (by decide) (fun K hK => ?_)
 refine value_ (w1 := ?_) (v := ?_) (by rfl) rfl ?_ ?_
 rotate_left 2
 ·go_simp
  constructor
  ·rfl
  ·rfl
 obtain ⟨⟨k0, k1, k2⟩, _⟩ := cells3 (blk_alloc PB.out (.cells #[.int .i64 0, .int .i64 0, .slice none 0 0] 36 (0, 0)))
 have c0 := (blk_cell (blk_alloc MB.out.1 (.cells #[.int .i64 0, .int .i64 0, .slice none 0 0] 36 (0, 0))) 5)
 refine hK.out _ _ ⟨c0, k0, k1, k2⟩ (fun hHeld => ?_)
 clear hK K
 refine norm_ (a' := ?_) ?_ ?_
 rotate_left
 ·show Act.put _ (some 38) _ = _
  simp only [pt_]
  rfl
 refine one_ (i := 7) (N := some 39) (bt_ 13 255) rfl rfl (by kernel_rfl) (by decide) (fun K hK => ?_)
 refine Kd.N_append_step k24 (w0 := w0) base (by rfl) (.tmp 35) (.tmp 38) 34 36 (.agg #[.int .i64 0, .int .i64 0, .slice none 0 0]) 40 (by rfl) Tryz.underlying34 info24 rfl (by decide) (by omega) (.slice AK M.K.length cK) M.K z24 [.int .i64 0, .int .i64 0, .slice none 0 0] (fun k => PK k ∨ wq.heap.size ≤ k) (fun _ => False) (by rfl) (by rfl) (k24_mkF _ _ z24 (A2 := none) (c2 := 0) (Nat.le_refl _) (Kd.F_nil _ _ _)) (fun _ h => h.elim) (fun k hk => Or.inr (Nat.le_trans LQ.out hk)) NK.out HB.out LB.out (by have := KL.out; omega) ?_
 intro v' w5 hN hb hg hat
 obtain ⟨g', cap', ev, hge, hglt, cells_, hcc_⟩ := Kd.N_form hN (by simp)
 have HTY := aq_ hcc_
 rw [List.length_append, List.length_singleton] at ev
 subst ev
 have HN5 := aq_ hN
 have HG5 := aq_ hg
 have HB5 := aq_ hb
 have HGE := aq_ hge
 have HAT : Aside0 (some g' = (Value.slice AK M.K.length cK).ownBlock ∨ wp.drew.heap.size ≤ g') := ⟨hat.imp (fun h => h) (fun ⟨b, h, hb⟩ => by have e : g' = b := (by simpa [Value.ownBlock] using h); rw [e]; exact hb)⟩
 have hgo : g' ≠ g := app_off MB.out HAT.out
 have hog : g ≠ g' := fun e => hgo e.symm
 have hgb : gp ≠ g' := fun e => HAT.out.elim (fun h => GP.out (by rw [e]; exact h.symm)) (fun h => by have := blk_lt PB.out; omega)
 obtain ⟨ce, hcl, hM, hcc', hfr⟩ := Kd.N_elem hN z24 (M.K.length : Int) (by omega) (by omega)
 rw [show (M.K ++ [z24]).getD ((M.K.length : Int).toNat) z24 = z24 by simp] at hM
 obtain ⟨ua, uc, rfl, ul, ge⟩ := k24_openF hM
 have HCE := aq_ hcc'
 rw [Int.toNat_natCast] at hcc' hfr
 have y0 : World.cell? w5 ⟨g', M.K.length * 3, none⟩ = some (.int .i64 _) := hcc' 0 _ rfl
 have y1 : World.cell? w5 ⟨g', M.K.length * 3 + 1, none⟩ = some (.int .i64 _) := hcc' 1 _ rfl
 have y2 : World.cell? w5 ⟨g', M.K.length * 3 + 2, none⟩ = some (.slice _ _ _) := hcc' 2 _ rfl
 have u0 : World.frozen? w5 ⟨g', M.K.length * 3, none⟩ = false := hfr 0
 have u1 : World.frozen? w5 ⟨g', M.K.length * 3 + 1, none⟩ = false := hfr 1
 have u2 : World.frozen? w5 ⟨g', M.K.length * 3 + 2, none⟩ = false := hfr 2
 have HP5 := aq_ (show w5.heap[gp]? = some (.cells #[.int .i64 (proofT a.X a.F).f0, .int .i64 (proofT a.X a.F).f1, .slice Ap (proofT a.X a.F).f2.length cp] 36 (0, 0)) from (hg.block gp (blk_lt PB.out) (fun e => GP.out e.symm)).trans PB.out)
 have HM5 := aq_ (show w5.heap[g]? = some (.cells (mca M (.slice AU M.U.length cU) (.slice AT M.T.length cT) (.slice AK M.K.length cK) (.slice AD M.D.length cD)) 42 (0, 0)) from (hg.block g (blk_lt MB.out.1) (fun e => GO.out e.symm)).trans MB.out.1)
 have c5 : World.cell? w5 ⟨g, 5, none⟩ = some (.slice AK M.K.length cK) := (blk_cell HM5.out 5).trans rfl
 have d5 := blk_frozen HM5.out 5
 obtain ⟨⟨m0, m1, m2⟩, _⟩ := cells3 HP5.out
 have hlt : (M.K.length : Int) < (M.K.length : Int) + 1 := by omega
 clear hN hg hat hb hge hcc' hfr hM ge hglt hcl hcc_
 refine hK.out _ _ ⟨c5, m0, m1, m2⟩ (fun hHeld => ?_)
 clear hK K
 refine norm_ (a' := ?_) ?_ ?_
 rotate_left
 ·show Act.put _ (some 39) _ = _
  simp only [pt_]
  rfl
 refine pz_ 8 (some 40) (bt_ 13 511) ?_
 refine pz_ 10 (some 41) (bt_ 13 1535) ?_
 refine pz_ 11 (some 42) (bt_ 13 3583) ?_
 refine two_last_ (i := 9) (j := 12) (Ni := none) (Nj := none) (bt_ 13 4095) (bt_ 13 7679) rfl rfl rfl rfl (by kernel_rfl) (by decide) (by decide) (fun K hK => ?_) (fun K hK => ?_)
 ·refine skip_ (w1 := ?_) (by rfl) rfl ?_ ?_
  rotate_left
  ·go_simp
   rfl
  refine hK.out _ _ ?_
  clear hK K
  refine last_ (i := 12) (N := none) (bt_ 13 8191) rfl rfl (by kernel_rfl) (by decide) (fun K hK => ?_)
  refine skip_ (w1 := ?_) (by rfl) rfl ?_ ?_
  rotate_left
  ·go_simp
   rfl
  refine hK.out _ _ ?_
  clear hK K
  refine done_ (by kernel_rfl) ?_
  go_wp2
  go_ret
  have hF := Kd.FK_step (Kd.FK_mono (Kd.FK_bound (FK_of_V HV.out)) (ok' := fun k => wq.heap.size ≤ k ∧ k < wp.drew.heap.size ∧ k ≠ g') fun k hk => ⟨hk.1, hk.2, fun e => HAT.out.elim (fun h => QN.out k (by rw [e]; exact h.symm) hk.1) (fun h => by have := hk.2; omega)⟩) (fun k hk hlt => HG5.out.block k hlt fun e => QN.out k e.symm hk.1)
  obtain ⟨q1, q2⟩ := emit_fin (ok := (fun k => PK k ∨ wq.heap.size ≤ k)) (okp := fun k => wq.heap.size ≤ k ∧ k < wp.drew.heap.size ∧ k ≠ g') MB.out HG5.out HAT.out HN5.out (fun k hk => hk.elim (fun h => PG.out k h) (fun h => ⟨by have := GQ.out; omega, fun e => by have := RL.out k e; have := GQ.out; have := HBG.out; omega⟩)) hF (fun k hk => ⟨.inr hk.1, hk.2.2⟩) (fun k hk => Below.heap_setCell _ _ _ _ hk) (blk_put (blk_far (blk_far (blk_far (HM5.out) hog _) hog _) hog _) 5 _ rfl)
  exact ⟨_, by rw [HE.out]; rfl, by rw [HE.out]; exact q1, by rw [HE.out]; exact q2, (Below.setCell (Below.setCell (Below.setCell (Below.setCell HB5.out (p := ⟨g', M.K.length * 3, none⟩) HGE.out _) (p := ⟨g', M.K.length * 3 + 1, none⟩) HGE.out _) (p := ⟨g', M.K.length * 3 + 2, none⟩) HGE.out _) (p := ⟨g, 5, none⟩) HBG.out _)⟩
 ·refine skip_ (w1 := ?_) (by rfl) rfl ?_ ?_
  rotate_left
  ·go_simp
   rfl
  refine hK.out _ _ ?_
  clear hK K
  refine last_ (i := 9) (N := none) (bt_ 13 8191) rfl rfl (by kernel_rfl) (by decide) (fun K hK => ?_)
  refine skip_ (w1 := ?_) (by rfl) rfl ?_ ?_
  rotate_left
  ·go_simp
   rfl
  refine hK.out _ _ ?_
  clear hK K
  refine done_ (by kernel_rfl) ?_
  go_wp2
  go_ret
  have hF := Kd.FK_step (Kd.FK_mono (Kd.FK_bound (FK_of_V HV.out)) (ok' := fun k => wq.heap.size ≤ k ∧ k < wp.drew.heap.size ∧ k ≠ g') fun k hk => ⟨hk.1, hk.2, fun e => HAT.out.elim (fun h => QN.out k (by rw [e]; exact h.symm) hk.1) (fun h => by have := hk.2; omega)⟩) (fun k hk hlt => HG5.out.block k hlt fun e => QN.out k e.symm hk.1)
  obtain ⟨q1, q2⟩ := emit_fin (ok := (fun k => PK k ∨ wq.heap.size ≤ k)) (okp := fun k => wq.heap.size ≤ k ∧ k < wp.drew.heap.size ∧ k ≠ g') MB.out HG5.out HAT.out HN5.out (fun k hk => hk.elim (fun h => PG.out k h) (fun h => ⟨by have := GQ.out; omega, fun e => by have := RL.out k e; have := GQ.out; have := HBG.out; omega⟩)) hF (fun k hk => ⟨.inr hk.1, hk.2.2⟩) (set31 hog HTY.out) (blk_far (blk_far (blk_far (blk_put HM5.out 5 _ rfl) hog _) hog _) hog _)
  exact ⟨_, by rw [HE.out]; rfl, by rw [HE.out]; exact q1, by rw [HE.out]; exact q2, (Below.setCell (Below.setCell (Below.setCell (Below.setCell HB5.out (p := ⟨g, 5, none⟩) HBG.out _) (p := ⟨g', M.K.length * 3, none⟩) HGE.out _) (p := ⟨g', M.K.length * 3 + 1, none⟩) HGE.out _) (p := ⟨g', M.K.length * 3 + 2, none⟩) HGE.out _)⟩
theorem emit_any (M : Mdl) (a : Ac) (vU vT vK vD vA : Value) (w0 w : World) (base g : Nat) (rb : Nat → Prop) (hm : MBox w base g rb M vU vT vK vD) (hB : Below base w0 w) (hb : base ≤ w.heap.size) (hd : wfS a.X) (hw : wfF a.F) (hK : M.K.length < 1000000) :
  Calls Tryz.prog 28 #[.pointer (some ⟨g, 0, none⟩), .agg (aca a vA)] w fun e w' => ∃ vK', e = .returned (.int .i64 (emitM M a).2) ∧ w'.heap[g]? = some (.cells (mca (emitM M a).1 vU vT vK' vD) 42 (0, 0)) ∧ MdO w' rb (emitM M a).1 vU vT vK' vD ∧ Below base w0 w' := by
 by_cases t0 : findU M.U a.X.user = -1
 ·exact emit_0 M a vU vT vK vD vA w0 w base g rb hm hB hb hd hw hK t0
 cases t1 : isP a.X a.F
 ·exact emit_1 M a vU vT vK vD vA w0 w base g rb hm hB hb hd hw hK t0 t1
 by_cases t2 : M.K.length = 40
 ·exact emit_2 M a vU vT vK vD vA w0 w base g rb hm hB hb hd hw hK t0 t1 t2
 ·exact emit_3 M a vU vT vK vD vA w0 w base g rb hm hB hb hd hw hK t0 t1 t2
end Go.Proofs.YtdinphnljokigaaGreat.P
end
