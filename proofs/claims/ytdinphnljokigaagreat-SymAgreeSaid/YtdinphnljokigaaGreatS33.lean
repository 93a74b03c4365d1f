/- What LawSymAgree rests on, part 33: several texts put together. -/
import Derived.Test.YtdinphnljokigaaGreatS27
import Derived.Test.YtdinphnljokigaaGreatS10
import Derived.Test.YtdinphnljokigaaGreatS30
import Derived.Test.YtdinphnljokigaaGreatS31
import Derived.Test.YtdinphnljokigaaGreatS32
import Derived.Test.YtdinphnljokigaaGreatS3
set_option linter.unusedVariables false
set_option linter.unnecessarySimpa false
set_option linter.unusedSimpArgs false
set_option maxRecDepth 100000
section
namespace Go.Proofs.YtdinphnljokigaaGreat.P
open Go.RowKit Go.Lib Go.Proofs.YtdinphnljokigaaGreatW.PrintWords Go.Proofs.YtdinphnljokigaaGreatW.PrintLast Go.Proofs.YtdinphnljokigaaGreatW.PrintMore
set_option maxHeartbeats 8000000 in
theorem proved_8 (M : Mdl) (a : Ac) (vU vT vK vD vA : Value) (w0 w : World) (base g : Nat) (rb : Nat → Prop) (hm : MBox w base g rb M vU vT vK vD) (hB : Below base w0 w) (hb : base ≤ w.heap.size) (hT : M.T.length < 1000000) (hD : M.D.length < 1000000) (hW : wfF a.F) (hS : ∀ x ∈ M.T, wfS x) (hA : Told k24 w vA a.T.f2) (i : Nat) (x : Ses) (hf : findS M.T a.F.sess = i) (hi : i < M.T.length) (hx : M.T[i]? = some x) (k4 : a.F.kind = 4) (ho : x.isOpen = true) (hp : isP x a.F = true) (hq : sameT (proofT x a.F) a.T = true) (T1 : List Ses) (e1 : Int) (hu : useS M.T x.draw a.F.count M.idle M.now = (T1, e1)) (he : e1 = 0) (hr : mayR (roleU M.U x.user) a.F.cmd = true) (hc : a.F.cmd = 7) (hg : a.F.arg = 0) (hl1 : T1.length < 1000000) :
  Calls Tryz.prog 65 #[.pointer (some ⟨g, 0, none⟩), .agg (aca a vA)] w fun e w' => ∃ vT' vD', e = .returned (.int .i64 (provedM M a).2) ∧ w'.heap[g]? = some (.cells (mca (provedM M a).1 vU vT' vK vD') 42 (0, 0)) ∧ MdO w' rb (provedM M a).1 vU vT' vK vD' ∧ Below base w0 w' := by
 have HE := aq_ (show provedM M a = ({ M with T := dropS T1 x.draw, D := M.D ++ [doneM x a.F] }, 0) by rw [provedM_at hf hx]; unfold foundM; rw [if_neg (by rw [ho]; simp)]; rw [if_neg (by rw [hp]; decide), if_neg (by rw [hq]; decide), if_neg (fun h => h k4), hu]; unfold ranM; rw [if_neg (fun h => h he), if_neg (by rw [hr]; decide), if_pos ⟨hc, hg⟩])
 have hk : (a.F.kind == 4) = true := by simpa using k4
 have HO := aq_ ho
 have HP := aq_ hp
 have HQ := aq_ hq
 have TH := aq_ hu
 have hz : (e1 != 0) = false := by simpa using he
 have HR := aq_ hr
 clear hr
 have hc7 : (a.F.cmd == 7) = true := by simpa using hc
 have hg0 : (a.F.arg == 0) = true := by simpa using hg
 have HL1 := aq_ hl1
 clear hc hg hl1
 clear k4 ho
 clear hp hq hu
 obtain ⟨⟨AU, cU, rfl⟩, ⟨AT, cT, rfl⟩, ⟨AK, cK, rfl⟩, ⟨AD, cD, rfl⟩⟩ := mbox_slices hm
 obtain ⟨AA, cA, rfl, hcA, hCA⟩ := hA
 have MB := aq_ hm
 have HB := aq_ hB
 have LB := aq_ hb
 have TL := aq_ hT
 have DL := aq_ hD
 have HW := aq_ hW
 have TA := aq_ hCA
 have CA := aq_ hcA
 have HX := aq_ (hS x (List.mem_of_getElem? hx))
 have HI := aq_ hx
 have HF := aq_ hf
 obtain ⟨ad, rfl⟩ := some_S (mbox_T hm).1 hi hx
 have hne : ((i : Int) == -1) = false := by simp
 clear hm hB hb hT hD hW hS hCA hcA hx hf
 go_enter Tryz.func65, Tryz.ntmps65
 go_wp2_with ((with_reducible refine box_Ac (.tmp 1) (x := a) (v := .slice AA a.T.f2.length cA) rfl rfl rfl ?_); intro ga hga wS hbox hb; have MS := aq_ (mbox_below MB.out hb); have AS := aq_ hbox; have TS := aq_ (Kd.C_below TA.out hb); have HBS := aq_ (HB.out.trans (hb.mono LB.out)); have LBS := aq_ (Nat.le_trans LB.out hb.size); have NA := aq_ (show g ≠ ga by have := blk_lt MB.out.1; omega); have BS := aq_ (Below.refl wS.heap.size wS); have LS := aq_ (Nat.le_refl wS.heap.size); have GAL := aq_ (blk_lt AS.out); have OA := aq_ (show ∀ k, (Value.slice AD M.D.length cD).ownBlock = some k → k ≠ ga from fun k hk e => mbox_ownD MB.out k hk (by omega)); have OD := aq_ (mbox_ownD MS.out); clear hga hbox hb MB HB LB TA)
 refine wp_scope_straight ?_
 go_upto_region 6 with (first
  | ((with_reducible refine alloc_Se rfl rfl ?_); intro gs hgs w1 hbox hb hsz; have NG := aq_ (show g ≠ gs by have := blk_lt MS.out.1; have := LS.out; omega); have GSL := aq_ (show wS.heap.size ≤ gs by have := LS.out; omega); have OS := aq_ (show ∀ k, (Value.slice AD M.D.length cD).ownBlock = some k → k ≠ gs from fun k hk e => OD.out k hk (by rw [e]; exact GSL.out)); replace BS := aq_ (BS.out.trans (Below.mono hb LS.out)); replace LS := aq_ (Nat.le_trans LS.out (Below.size hb)); have XB := aq_ hbox; clear hbox hb hsz hgs)
  | ((with_reducible refine alloc_Te rfl rfl ?_); intro gt hgt w2 hbox hb; have GT := aq_ (show gs < gt by have := blk_lt XB.out; omega); replace BS := aq_ (BS.out.trans (Below.mono hb LS.out)); replace LS := aq_ (Nat.le_trans LS.out (Below.size hb)); replace XB := aq_ (blk_below XB.out hb); have TB := aq_ hbox; have c1 := (cellsA_F (blk_below AS.out BS.out)).1; clear hbox hb hgt))
 clear c1
 replace BS := aq_ (BS.out.trans (Below.mono (below_drew (Below.refl w2.heap.size w2)) LS.out))
 replace LS := aq_ (Nat.le_trans LS.out (Below.size (below_drew (Below.refl w2.heap.size w2))))
 replace XB := aq_ (blk_drew XB.out)
 replace TB := aq_ (blk_drew TB.out)
 refine start_ (n := 9) (S := fun w' => w'.cell? ⟨g, 2, none⟩ = some (.slice (some ad) M.T.length cT) ∧ w'.cell? ⟨ga, 3, none⟩ = some (.int .u64 a.F.sess)) (ds := []) #[false, false, false, false, false, false, false, false, false] (by kernel_rfl) rfl rfl ⟨blk_cell (mbox_below MS.out BS.out).1 2, (cellsA_F (blk_below AS.out BS.out)).2.2.1⟩ (fun hHeld => ?_)
 refine pz_ 0 (some 15) (bt_ 9 1) ?_
 refine pz_ 1 (some 16) (bt_ 9 3) ?_
 refine pz_ 2 (some 17) (bt_ 9 7) ?_
 refine pz_ 4 (some 19) (bt_ 9 23) ?_
 refine pz_ 5 (some 20) (bt_ 9 55) ?_
 refine tz_ 3 (some 18) (bt_ 9 63) hHeld ?_
 refine tz_ 6 (some 21) (bt_ 9 127) hHeld ?_
 refine gz_ 7 (some 22) (bt_ 9 255) Tryz.func73 #[.slice (some ad) M.T.length cT, .int .u64 a.F.sess] fun K hK => ?_
 with_reducible refine (find_any a.F.sess M.T (some ad) cT _ (mbox_T (mbox_below MS.out BS.out)).1).mono ?_
 rintro e wq ⟨he_, hb_⟩
 rw [HF.out] at he_
 subst he_
 refine ⟨_, rfl, ?_⟩
 replace BS := aq_ (BS.out.trans (Below.mono hb_ LS.out))
 replace LS := aq_ (Nat.le_trans LS.out (Below.size hb_))
 replace XB := aq_ (blk_below XB.out hb_)
 replace TB := aq_ (blk_below TB.out hb_)
 clear hb_
 refine hK.out _ _ ⟨blk_cell (mbox_below MS.out BS.out).1 2, (cellsA_F (blk_below AS.out BS.out)).2.2.1⟩ (fun hHeld => ?_)
 clear hK K
 refine nz_ ?_
 refine pz_ 8 (some 10) (bt_ 9 511) ?_
 refine done_ (by kernel_rfl) ?_
 have c2 : wq.cell? ⟨g, 2, none⟩ = some (.slice (some ad) M.T.length cT) := blk_cell (mbox_below MS.out BS.out).1 2
 have c36 := open_S (mbox_T (mbox_below MS.out BS.out)).1 hi HI.out
 rw [HO.out] at c36
 go_upto_region 15 with (first
  | ((with_reducible refine gate_load 33 (.tmp 44) rfl ?_); refine load_Sw (.tmp 44) rfl (by rfl) (p := ad.add (i * 39)) rfl (row_S (mbox_T (mbox_below MS.out BS.out)).1 hi HI.out) ?_)
  | ((with_reducible refine store_Se2 (.tmp 5) (.tmp 45) rfl rfl rfl rfl rfl XB.out ?_); intro w3 hx1 hs1 hb1 hf1; have BS' := aq_ (BS.out.trans (hb1 _ GSL.out)); have LS' := aq_ (show wS.heap.size ≤ w3.heap.size by rw [hs1]; exact LS.out); have TB' := aq_ ((hf1 gt (Nat.ne_of_gt GT.out)).trans TB.out); clear BS LS XB TB c2; have BS := BS'; have LS := LS'; have XB := aq_ hx1; have TB := TB'; clear BS' LS' TB' hx1 hs1 hb1 hf1)
  | (with_reducible refine load_S (.tmp 5) rfl rfl (p := ⟨gs, 0, none⟩) rfl (cells_box XB.out) ?_)
  | (with_reducible refine load_F (.tmp 48) rfl rfl (p := ⟨ga, 1, none⟩) rfl (boxA_F (blk_below AS.out BS.out)) ?_)
  | ((go_at_call 18; (with_reducible refine (proof_any x a.F _ HX.out HW.out).mono ?_)); rw [HP.out]; rintro e w7 ⟨vp, rfl, hV, hb⟩; obtain ⟨Ap, cp, rfl⟩ := Kd.V_slice hV; have PV := aq_ hV; have PQ := aq_ (blk_lt TB.out); replace BS := aq_ (BS.out.trans (Below.mono hb LS.out)); replace LS := aq_ (Nat.le_trans LS.out (Below.size hb)); replace XB := aq_ (blk_below XB.out hb); replace TB := aq_ (blk_below TB.out hb); clear hb hV)
  | ((with_reducible refine store_Te2 (.tmp 6) (.tmp 51) rfl rfl rfl rfl rfl rfl TB.out ?_); intro w4 hx1 hs1 hb1 hf1; have BS' := aq_ (BS.out.trans (hb1 _ (Nat.le_trans GSL.out (Nat.le_of_lt GT.out)))); have LS' := aq_ (show wS.heap.size ≤ w4.heap.size by rw [hs1]; exact LS.out); have XB' := aq_ ((hf1 gs (Nat.ne_of_lt GT.out)).trans XB.out); have PV' := aq_ (Kd.V_step PV.out (w1 := w4) (fun k hk _ => hf1 k (by have := PQ.out; omega))); clear BS LS XB TB PV; have BS := BS'; have LS := LS'; have XB := XB'; have TB := aq_ hx1; have PV := PV'; obtain ⟨⟨m0, m1, m2⟩, _⟩ := cells3 TB.out; obtain ⟨k0, k1, k2⟩ := cellsA_T (blk_below AS.out BS.out); clear BS' LS' XB' PV' hx1 hs1 hb1 hf1)
  | ((go_at_call 80; (with_reducible refine (sameT_any (proofT x a.F) a.T Ap AA cp cA _ (told_C' (told_V PV.out)).2.2 (told_C' (told_V PV.out)).2.1 (Kd.C_below TS.out BS.out) CA.out).mono ?_)); rw [HQ.out]; rintro e w8 ⟨rfl, hb⟩; clear m0 m1 m2 k0 k1 k2; replace BS := aq_ (BS.out.trans (Below.mono hb LS.out)); replace LS := aq_ (Nat.le_trans LS.out (Below.size hb)); replace XB := aq_ (blk_below XB.out hb); clear hb TB))
 have MB := aq_ (mbox_below MS.out BS.out)
 have AB := aq_ (blk_below AS.out BS.out)
 have HB := aq_ (HBS.out.trans (BS.out.mono LBS.out))
 have LB := aq_ (Nat.le_trans LBS.out LS.out)
 have GB := aq_ MB.out.2.1
 clear MS AS TS BS LS HBS LBS PV
 replace MB := aq_ (mbox_below MB.out (below_drew (Below.refl _ w8)))
 replace AB := aq_ (blk_drew AB.out)
 replace XB := aq_ (blk_drew XB.out)
 replace HB := aq_ (below_drew HB.out)
 replace LB := aq_ (show base ≤ w8.drew.heap.size from LB.out)
 have GL := aq_ (mbox_lt MB.out)
 have GK := aq_ (mbox_own MB.out)
 have GD := aq_ (mbox_ownD MB.out)
 refine start_ (n := 26) (S := fun w' => w'.cell? ⟨g, 2, none⟩ = some (.slice (some ad) M.T.length cT) ∧ w'.cell? ⟨gs, 2, none⟩ = some (.int .u64 x.draw) ∧ w'.cell? ⟨ga, 6, none⟩ = some (.int .u64 a.F.count) ∧ w'.cell? ⟨g, 1, none⟩ = some (.int .i64 M.idle) ∧ w'.cell? ⟨g, 4, none⟩ = some (.int .i64 M.now)) (ds := [24]) #[false, false, false, false, false, false, false, false, false, false, false, false, false, false, false, false, false, false, false, false, false, false, false, false, false, false] (by kernel_rfl) rfl rfl ⟨blk_cell MB.out.1 2, (cellsS XB.out).2.2.1, (cellsA_F AB.out).2.2.2.2.2.1, blk_cell MB.out.1 1, blk_cell MB.out.1 4⟩ (fun hHeld => ?_)
 refine pz_ 0 (some 87) (bt_ 26 1) ?_
 refine pz_ 1 (some 88) (bt_ 26 3) ?_
 refine pz_ 2 (some 89) (bt_ 26 7) ?_
 refine pz_ 3 (some 90) (bt_ 26 15) ?_
 refine pz_ 5 (some 92) (bt_ 26 47) ?_
 refine pz_ 7 (some 94) (bt_ 26 175) ?_
 refine pz_ 8 (some 95) (bt_ 26 431) ?_
 refine pz_ 10 (some 97) (bt_ 26 1455) ?_
 refine pz_ 11 (some 98) (bt_ 26 3503) ?_
 refine pz_ 12 (some 99) (bt_ 26 7599) ?_
 refine pz_ 14 (some 101) (bt_ 26 23983) ?_
 refine pz_ 15 (some 102) (bt_ 26 56751) ?_
 refine pz_ 16 (some 103) (bt_ 26 122287) ?_
 refine tz_ 4 (some 91) (bt_ 26 122303) hHeld ?_
 refine tz_ 6 (some 93) (bt_ 26 122367) hHeld ?_
 refine tz_ 9 (some 96) (bt_ 26 122879) hHeld ?_
 refine tz_ 13 (some 100) (bt_ 26 131071) hHeld ?_
 refine tz_ 17 (some 104) (bt_ 26 262143) hHeld ?_
 refine gz_ 18 (some 105) (bt_ 26 524287) Tryz.func87 #[.slice (some ad) M.T.length cT, .int .u64 x.draw, .int .u64 a.F.count, .int .i64 M.idle, .int .i64 M.now] fun K hK => ?_
 with_reducible refine (use_any x.draw a.F.count M.idle M.now M.T (some ad) cT _ (mbox_T MB.out).1 (mbox_T MB.out).2 TL.out _ _ TH.out).mono ?_
 rintro e wr ⟨vT', rfl, hO_, hb_⟩
 refine ⟨_, rfl, ?_⟩
 obtain ⟨AT1, cT1, rfl⟩ := told_slice hO_
 replace MB := aq_ (mbox_below MB.out hb_)
 replace AB := aq_ (blk_below AB.out hb_)
 replace XB := aq_ (blk_below XB.out hb_)
 replace HB := aq_ (HB.out.trans (Below.mono hb_ LB.out))
 replace LB := aq_ (Nat.le_trans LB.out (Below.size hb_))
 have z2 : wr.frozen? ⟨g, 2, none⟩ = false := blk_frozen MB.out.1 2
 have HO2 := aq_ (told_base hO_ GL.out GK.out GD.out)
 clear hb_ hO_
 refine hK.out _ _ ⟨blk_cell MB.out.1 2, (cellsS XB.out).2.2.1, (cellsA_F AB.out).2.2.2.2.2.1, blk_cell MB.out.1 1, blk_cell MB.out.1 4⟩ (fun hHeld => ?_)
 clear hK K
 refine nz_ ?_
 refine pz_ 19 (some 86) (bt_ 26 1048575) ?_
 refine pz_ 20 (some 106) (bt_ 26 2097151) ?_
 refine pz_ 21 (some 107) (bt_ 26 4194303) ?_
 refine pz_ 22 (some 108) (bt_ 26 8388607) ?_
 refine pz_ 23 (some 109) (bt_ 26 16777215) ?_
 refine last_ (i := 24) (N := none) (bt_ 26 33554431) rfl rfl (by kernel_rfl) (by decide) (fun K hK => ?_)
 refine skip_ (w1 := ?_) (by rfl) rfl ?_ ?_
 rotate_left
 ·go_simp
  rfl
 refine hK.out _ _ ?_
 clear hK K
 refine pz_ 25 (some 9) (bt_ 26 67108863) ?_
 refine done_ (by kernel_rfl) ?_
 obtain ⟨P, hV, hP⟩ := HO2.out
 have hF := mbox_setT MB.out hV hP
 obtain ⟨wT, hwT⟩ : ∃ wT, wT = wr.setCell ⟨g, 2, none⟩ (.slice AT1 T1.length cT1) := ⟨_, rfl⟩
 rw [← hwT] at hF ⊢
 replace AB := aq_ (show wT.heap[ga]? = some (.cells (aca a (.slice AA a.T.f2.length cA)) 38 (0, 0)) by rw [hwT]; exact blk_far AB.out (Ne.symm NA.out) _)
 replace XB := aq_ (show wT.heap[gs]? = some (.cells (sca x) 33 (0, 0)) by rw [hwT]; exact blk_far XB.out (Ne.symm NG.out) _)
 replace HB := aq_ (show Below base w0 wT by rw [hwT]; exact HB.out.setCell (p := ⟨g, 2, none⟩) GB.out _)
 replace LB := aq_ (show base ≤ wT.heap.size by rw [hwT, World.size_setCell]; exact LB.out)
 replace MB := aq_ hF
 clear hF hV hP HO2 hwT GL GK GD
 clear he
 go_upto_region 18 with (fail)
 replace MB := aq_ (mbox_below MB.out (below_drew (Below.refl _ wT)))
 replace AB := aq_ (blk_drew AB.out)
 replace XB := aq_ (blk_drew XB.out)
 replace HB := aq_ (below_drew HB.out)
 replace LB := aq_ (show base ≤ wT.drew.heap.size from LB.out)
 refine start_ (n := 12) (S := fun w' => w'.cell? ⟨g, 0, none⟩ = some (.slice AU M.U.length cU) ∧ w'.cell? ⟨gs, 0, none⟩ = some (.int .i64 x.user) ∧ w'.cell? ⟨ga, 7, none⟩ = some (.int .i64 a.F.cmd)) (ds := []) #[false, false, false, false, false, false, false, false, false, false, false, false] (by kernel_rfl) rfl rfl ⟨blk_cell MB.out.1 0, (cellsS XB.out).1, (cellsA_F AB.out).2.2.2.2.2.2.1⟩ (fun hHeld => ?_)
 refine pz_ 0 (some 112) (bt_ 12 1) ?_
 refine pz_ 1 (some 113) (bt_ 12 3) ?_
 refine pz_ 2 (some 114) (bt_ 12 7) ?_
 refine pz_ 4 (some 116) (bt_ 12 23) ?_
 refine pz_ 7 (some 119) (bt_ 12 151) ?_
 refine pz_ 8 (some 120) (bt_ 12 407) ?_
 refine tz_ 3 (some 115) (bt_ 12 415) hHeld ?_
 refine tz_ 5 (some 117) (bt_ 12 447) hHeld ?_
 refine tz_ 9 (some 121) (bt_ 12 959) hHeld ?_
 refine gz_ 6 (some 118) (bt_ 12 1023) Tryz.func17 #[.slice AU M.U.length cU, .int .i64 x.user] fun K hK => ?_
 with_reducible refine (urole_any M.U AU cU x.user _ (mbox_U (M := { M with T := T1 }) MB.out)).mono ?_
 rintro e ws ⟨rfl, hb_⟩
 refine ⟨_, rfl, ?_⟩
 replace MB := aq_ (mbox_below MB.out hb_)
 replace AB := aq_ (blk_below AB.out hb_)
 replace XB := aq_ (blk_below XB.out hb_)
 replace HB := aq_ (HB.out.trans (Below.mono hb_ LB.out))
 replace LB := aq_ (Nat.le_trans LB.out (Below.size hb_))
 clear hb_
 refine hK.out _ _ ⟨blk_cell MB.out.1 0, (cellsS XB.out).1, (cellsA_F AB.out).2.2.2.2.2.2.1⟩ (fun hHeld => ?_)
 clear hK K
 refine nz_ ?_
 refine gz_ 10 (some 122) (bt_ 12 2047) Tryz.func16 #[.int .i64 (roleU M.U x.user), .int .i64 a.F.cmd] fun K hK => ?_
 with_reducible refine (role_May.calls (roleU M.U x.user) a.F.cmd _ _ rfl).mono ?_
 rintro e wv ⟨he_, hb_⟩
 rw [HR.out] at he_
 subst he_
 refine ⟨_, rfl, ?_⟩
 replace MB := aq_ (mbox_below MB.out hb_)
 replace AB := aq_ (blk_below AB.out hb_)
 replace XB := aq_ (blk_below XB.out hb_)
 replace HB := aq_ (HB.out.trans (Below.mono hb_ LB.out))
 replace LB := aq_ (Nat.le_trans LB.out (Below.size hb_))
 clear hb_
 refine hK.out _ _ ⟨blk_cell MB.out.1 0, (cellsS XB.out).1, (cellsA_F AB.out).2.2.2.2.2.2.1⟩ (fun hHeld => ?_)
 clear hK K
 refine nz_ ?_
 refine pz_ 11 (some 123) (bt_ 12 4095) ?_
 refine done_ (by kernel_rfl) ?_
 go_upto_region 19 with (fail)
 replace MB := aq_ (mbox_below MB.out (below_drew (Below.refl _ wv)))
 replace AB := aq_ (blk_drew AB.out)
 replace XB := aq_ (blk_drew XB.out)
 replace HB := aq_ (below_drew HB.out)
 replace LB := aq_ (show base ≤ wv.drew.heap.size from LB.out)
 have OG := aq_ (mbox_offD MB.out)
 obtain ⟨PD, hDR, hDF⟩ := mbox_D MB.out
 have DR := aq_ hDR
 have HDF := aq_ hDF
 clear hDR hDF
 refine start_ (n := 28) (S := fun w' => w'.cell? ⟨g, 6, none⟩ = some (.slice AD M.D.length cD) ∧ w'.cell? ⟨gs, 0, none⟩ = some (.int .i64 x.user) ∧ w'.cell? ⟨gs, 1, none⟩ = some (.int .i64 x.epoch) ∧ w'.cell? ⟨gs, 2, none⟩ = some (.int .u64 x.draw) ∧ w'.cell? ⟨gs, 3, none⟩ = some (.int .u64 x.cn) ∧ w'.cell? ⟨ga, 6, none⟩ = some (.int .u64 a.F.count) ∧ w'.cell? ⟨ga, 7, none⟩ = some (.int .i64 a.F.cmd) ∧ w'.cell? ⟨ga, 8, none⟩ = some (.int .i64 a.F.arg)) (ds := [27]) #[false, false, false, false, false, false, false, false, false, false, false, false, false, false, false, false, false, false, false, false, false, false, false, false, false, false, false, false] (by kernel_rfl) rfl rfl ⟨blk_cell MB.out.1 6, (cellsS XB.out).1, (cellsS XB.out).2.1, (cellsS XB.out).2.2.1, (cellsS XB.out).2.2.2.1, (cellsA_F AB.out).2.2.2.2.2.1, (cellsA_F AB.out).2.2.2.2.2.2.1, (cellsA_F AB.out).2.2.2.2.2.2.2⟩ (fun hHeld => ?_)
 refine pz_ 0 (some 124) (bt_ 28 1) ?_
 refine pz_ 1 (some 125) (bt_ 28 3) ?_
 refine pz_ 2 (some 126) (bt_ 28 7) ?_
 refine pz_ 3 (some 127) (bt_ 28 15) ?_
 refine pz_ 5 (some 129) (bt_ 28 47) ?_
 refine pz_ 7 (some 131) (bt_ 28 175) ?_
 refine pz_ 9 (some 133) (bt_ 28 687) ?_
 refine pz_ 11 (some 135) (bt_ 28 2735) ?_
 refine pz_ 13 (some 137) (bt_ 28 10927) ?_
 refine pz_ 14 (some 138) (bt_ 28 27311) ?_
 refine pz_ 16 (some 140) (bt_ 28 92847) ?_
 refine pz_ 17 (some 141) (bt_ 28 223919) ?_
 refine pz_ 19 (some 143) (bt_ 28 748207) ?_
 refine pz_ 20 (some 144) (bt_ 28 1796783) ?_
 refine tz_ 4 (some 128) (bt_ 28 1796799) hHeld ?_
 refine tz_ 6 (some 130) (bt_ 28 1796863) hHeld ?_
 refine tz_ 8 (some 132) (bt_ 28 1797119) hHeld ?_
 refine tz_ 10 (some 134) (bt_ 28 1798143) hHeld ?_
 refine tz_ 12 (some 136) (bt_ 28 1802239) hHeld ?_
 refine tz_ 15 (some 139) (bt_ 28 1835007) hHeld ?_
 refine tz_ 18 (some 142) (bt_ 28 2097151) hHeld ?_
 refine tz_ 21 (some 145) (bt_ 28 4194303) hHeld ?_
 refine pz_ 22 (some 146) (bt_ 28 8388607) ?_
 refine one_ (i := 23) (N := some 147) (bt_ 28 16777215) rfl rfl (by kernel_rfl) (by decide) (fun K hK => ?_)
 refine value_ (w1 := ?_) (v := ?_) (by rfl) rfl ?_ ?_
 rotate_left 2
 ·go_simp
  constructor
  ·rfl
  ·rfl
 refine hK.out _ _ ⟨blk_cell (blk_alloc MB.out.1 (.cells #[.int .i64 x.user, .int .i64 x.epoch, .int .u64 x.draw, .int .u64 x.cn, .int .u64 a.F.count, .int .i64 a.F.cmd, .int .i64 a.F.arg] 48)) 6, (cellsS (blk_alloc XB.out (.cells #[.int .i64 x.user, .int .i64 x.epoch, .int .u64 x.draw, .int .u64 x.cn, .int .u64 a.F.count, .int .i64 a.F.cmd, .int .i64 a.F.arg] 48))).1, (cellsS (blk_alloc XB.out (.cells #[.int .i64 x.user, .int .i64 x.epoch, .int .u64 x.draw, .int .u64 x.cn, .int .u64 a.F.count, .int .i64 a.F.cmd, .int .i64 a.F.arg] 48))).2.1, (cellsS (blk_alloc XB.out (.cells #[.int .i64 x.user, .int .i64 x.epoch, .int .u64 x.draw, .int .u64 x.cn, .int .u64 a.F.count, .int .i64 a.F.cmd, .int .i64 a.F.arg] 48))).2.2.1, (cellsS (blk_alloc XB.out (.cells #[.int .i64 x.user, .int .i64 x.epoch, .int .u64 x.draw, .int .u64 x.cn, .int .u64 a.F.count, .int .i64 a.F.cmd, .int .i64 a.F.arg] 48))).2.2.2.1, (cellsA_F (blk_alloc AB.out (.cells #[.int .i64 x.user, .int .i64 x.epoch, .int .u64 x.draw, .int .u64 x.cn, .int .u64 a.F.count, .int .i64 a.F.cmd, .int .i64 a.F.arg] 48))).2.2.2.2.2.1, (cellsA_F (blk_alloc AB.out (.cells #[.int .i64 x.user, .int .i64 x.epoch, .int .u64 x.draw, .int .u64 x.cn, .int .u64 a.F.count, .int .i64 a.F.cmd, .int .i64 a.F.arg] 48))).2.2.2.2.2.2.1, (cellsA_F (blk_alloc AB.out (.cells #[.int .i64 x.user, .int .i64 x.epoch, .int .u64 x.draw, .int .u64 x.cn, .int .u64 a.F.count, .int .i64 a.F.cmd, .int .i64 a.F.arg] 48))).2.2.2.2.2.2.2⟩ (fun hHeld => ?_)
 clear hK K
 refine norm_ (a' := ?_) ?_ ?_
 rotate_left
 ·show Act.put _ (some 147) _ = _
  simp only [pt_]
  rfl
 refine one_ (i := 24) (N := some 148) (bt_ 28 33554431) rfl rfl (by kernel_rfl) (by decide) (fun K hK => ?_)
 refine Kd.R_append_step kD (w0 := w0) base (by rfl) (.tmp 128) (.tmp 147) 40 48 (.agg #[.int .i64 0, .int .i64 0, .int .u64 0, .int .u64 0, .int .u64 0, .int .i64 0, .int .i64 0]) 56 (by rfl) Tryz.underlying40 infoD rfl (by decide) (by omega) (.slice AD M.D.length cD) M.D (doneM x a.F) [.int .i64 x.user, .int .i64 x.epoch, .int .u64 x.draw, .int .u64 x.cn, .int .u64 a.F.count, .int .i64 a.F.cmd, .int .i64 a.F.arg] (fun k => PD k ∨ wv.drew.heap.size ≤ k) (fun _ => False) (by rfl) (by rfl) (by rfl) (fun _ h => h.elim) (fun k hk => Or.inr hk) DR.out HB.out LB.out (by have := DL.out; omega) ?_
 intro v1 w5 hR5 hb5 hg5 hat5
 obtain ⟨A5, c5, ev⟩ := Kd.R_slice hR5
 obtain ⟨n5, hn5⟩ : ∃ n5, n5 = (M.D ++ [doneM x a.F]).length := ⟨_, rfl⟩
 rw [← hn5] at ev
 subst ev
 clear hn5
 have HM5 := aq_ (HDF.out w5 _ _ hg5 hR5 hat5)
 have HG5 := aq_ ((hg5.block g (blk_lt MB.out.1) (fun e => OG.out e.symm)).trans MB.out.1)
 have XB5 := aq_ ((hg5.block gs (blk_lt XB.out) (fun e => OS.out _ e.symm rfl)).trans XB.out)
 have AB5 := aq_ ((hg5.block ga (blk_lt AB.out) (fun e => OA.out _ e.symm rfl)).trans AB.out)
 have HB5 := aq_ hb5
 have z6 : w5.frozen? ⟨g, 6, none⟩ = false := blk_frozen HG5.out 6
 clear hR5 hb5 hg5 hat5
 refine hK.out _ _ ⟨blk_cell HG5.out 6, (cellsS XB5.out).1, (cellsS XB5.out).2.1, (cellsS XB5.out).2.2.1, (cellsS XB5.out).2.2.2.1, (cellsA_F AB5.out).2.2.2.2.2.1, (cellsA_F AB5.out).2.2.2.2.2.2.1, (cellsA_F AB5.out).2.2.2.2.2.2.2⟩ (fun hHeld => ?_)
 clear hK K
 refine norm_ (a' := ?_) ?_ ?_
 rotate_left
 ·show Act.put _ (some 148) _ = _
  simp only [pt_]
  rfl
 refine pz_ 25 (some 149) (bt_ 28 67108863) ?_
 refine pz_ 26 (some 150) (bt_ 28 134217727) ?_
 refine last_ (i := 27) (N := none) (bt_ 28 268435455) rfl rfl (by kernel_rfl) (by decide) (fun K hK => ?_)
 refine skip_ (w1 := ?_) (by rfl) rfl ?_ ?_
 rotate_left
 ·go_simp
  rfl
 refine hK.out _ _ ?_
 clear hK K
 refine done_ (by kernel_rfl) ?_
 obtain ⟨wD, hwD⟩ : ∃ wD, wD = w5.setCell ⟨g, 6, none⟩ (.slice A5 n5 c5) := ⟨_, rfl⟩
 have MB' := aq_ (show MBox wD base g rb _ _ _ _ _ by rw [hwD]; exact HM5.out)
 have AB' := aq_ (show wD.heap[ga]? = some (.cells (aca a (.slice AA a.T.f2.length cA)) 38 (0, 0)) by rw [hwD]; exact blk_far AB5.out (Ne.symm NA.out) _)
 have XB' := aq_ (show wD.heap[gs]? = some (.cells (sca x) 33 (0, 0)) by rw [hwD]; exact blk_far XB5.out (Ne.symm NG.out) _)
 have HB' := aq_ (show Below base w0 wD by rw [hwD]; exact HB5.out.setCell (p := ⟨g, 6, none⟩) GB.out _)
 have LB' := aq_ (show base ≤ wD.heap.size from Nat.le_trans MB'.out.2.1 (Nat.le_of_lt (blk_lt MB'.out.1)))
 rw [← hwD]
 clear MB AB XB HB LB
 have MB := MB'
 have AB := AB'
 have XB := XB'
 have HB := HB'
 have LB := LB'
 clear MB' AB' XB' HB' LB'
 clear hwD
 have c7 := (cellsA_F AB.out).2.2.2.2.2.2.1
 have c8 := (cellsA_F AB.out).2.2.2.2.2.2.2
 go_upto_region 21 with (fail)
 clear c7 c8
 replace MB := aq_ (mbox_below MB.out (below_drew (Below.refl _ wD)))
 replace AB := aq_ (blk_drew AB.out)
 replace XB := aq_ (blk_drew XB.out)
 replace HB := aq_ (below_drew HB.out)
 replace LB := aq_ (show base ≤ wD.drew.heap.size from LB.out)
 have GL := aq_ (mbox_lt MB.out)
 have GK := aq_ (mbox_own MB.out)
 have GD := aq_ (mbox_ownD MB.out)
 refine start_ (n := 14) (S := fun w' => w'.cell? ⟨g, 2, none⟩ = some (.slice AT1 T1.length cT1) ∧ w'.cell? ⟨gs, 2, none⟩ = some (.int .u64 x.draw)) (ds := [13]) #[false, false, false, false, false, false, false, false, false, false, false, false, false, false] (by kernel_rfl) rfl rfl ⟨blk_cell MB.out.1 2, (cellsS XB.out).2.2.1⟩ (fun hHeld => ?_)
 refine pz_ 0 (some 162) (bt_ 14 1) ?_
 refine pz_ 1 (some 163) (bt_ 14 3) ?_
 refine pz_ 2 (some 164) (bt_ 14 7) ?_
 refine pz_ 3 (some 165) (bt_ 14 15) ?_
 refine pz_ 5 (some 167) (bt_ 14 47) ?_
 refine tz_ 4 (some 166) (bt_ 14 63) hHeld ?_
 refine tz_ 6 (some 168) (bt_ 14 127) hHeld ?_
 refine gz_ 7 (some 169) (bt_ 14 255) Tryz.func88 #[.slice AT1 T1.length cT1, .int .u64 x.draw] fun K hK => ?_
 with_reducible refine (drop_any x.draw T1 AT1 cT1 _ (mbox_T (M := { M with T := T1, D := M.D ++ [doneM x a.F] }) MB.out).1 HL1.out).mono ?_
 rintro e wx ⟨vX, rfl, hO_, hb_⟩
 refine ⟨_, rfl, ?_⟩
 obtain ⟨AT2, cT2, rfl⟩ := told_slice hO_
 replace MB := aq_ (mbox_below MB.out hb_)
 replace AB := aq_ (blk_below AB.out hb_)
 replace XB := aq_ (blk_below XB.out hb_)
 replace HB := aq_ (HB.out.trans (Below.mono hb_ LB.out))
 replace LB := aq_ (Nat.le_trans LB.out (Below.size hb_))
 have z2 : wx.frozen? ⟨g, 2, none⟩ = false := blk_frozen MB.out.1 2
 have HO3 := aq_ (told_base hO_ GL.out GK.out GD.out)
 clear hb_ hO_
 refine hK.out _ _ ⟨blk_cell MB.out.1 2, (cellsS XB.out).2.2.1⟩ (fun hHeld => ?_)
 clear hK K
 refine nz_ ?_
 refine pz_ 8 (some 161) (bt_ 14 511) ?_
 refine pz_ 9 (some 170) (bt_ 14 1023) ?_
 refine pz_ 10 (some 171) (bt_ 14 2047) ?_
 refine pz_ 11 (some 172) (bt_ 14 4095) ?_
 refine pz_ 12 (some 173) (bt_ 14 8191) ?_
 refine last_ (i := 13) (N := none) (bt_ 14 16383) rfl rfl (by kernel_rfl) (by decide) (fun K hK => ?_)
 refine skip_ (w1 := ?_) (by rfl) rfl ?_ ?_
 rotate_left
 ·go_simp
  rfl
 refine hK.out _ _ ?_
 clear hK K
 refine done_ (by kernel_rfl) ?_
 go_wp2
 (try rw [Exit.noGoto_ret])
 go_ret
 obtain ⟨P, hV, hP⟩ := HO3.out
 have hF := mbox_setT MB.out hV hP
 first
  | exact ⟨_, _, by rw [HE.out]; rfl, by rw [HE.out]; exact hF.1, by rw [HE.out]; exact mbox_mdo hF, HB.out.setCell (p := ⟨g, 2, none⟩) GB.out _⟩
  | exact ⟨by rw [HE.out]; rfl, _, _, by rw [HE.out]; exact hF.1, by rw [HE.out]; exact mbox_mdo hF, HB.out.setCell (p := ⟨g, 2, none⟩) GB.out _⟩
end Go.Proofs.YtdinphnljokigaaGreat.P
end

section
namespace Go.Proofs.YtdinphnljokigaaGreat.P
open Go.RowKit Go.Lib Go.Proofs.YtdinphnljokigaaGreatW.PrintWords Go.Proofs.YtdinphnljokigaaGreatW.PrintLast Go.Proofs.YtdinphnljokigaaGreatW.PrintMore
theorem oldS_1 {p : Ses → Bool} {l : List Ses} {d idle now : Int} (h : mayS l = false ∨ timesB idle now = false) : oldS p l d idle now = (-1, l, 1) := by
 unfold oldS
 rw [if_pos h]
section
variable {p : Ses → Bool} {l : List Ses} {d idle now : Int} (hm : mayS l = true) (ht : timesB idle now = true)
include hm ht
theorem oldS_5 (hf : findS l d = -1) : oldS p l d idle now = (-1, l, 5) := by
 unfold oldS
 rw [if_neg (by rw [hm, ht]; simp)]
 split
 ·rfl
 ·rw [if_pos (.inl hf)]
theorem oldS_5' {i : Nat} {x : Ses} (hf : findS l d = i) (hx : l[i]? = some x) (hp : p x = false) : oldS p l d idle now = (-1, l, 5) := by
 unfold oldS
 rw [if_neg (by rw [hm, ht]; simp), hf, Int.toNat_natCast, hx]
 simp only []
 rw [if_pos (.inr hp)]
theorem oldS_9 {i : Nat} {x : Ses} (hf : findS l d = i) (hx : l[i]? = some x) (hp : p x = true) (hl : lateB x idle now = true) : oldS p l d idle now = (-1, l.eraseIdx i, 9) := by
 unfold oldS
 rw [if_neg (by rw [hm, ht]; simp), hf, Int.toNat_natCast, hx]
 simp only []
 rw [if_neg (by rw [hp]; simp), if_pos hl]
theorem oldS_0 {i : Nat} {x : Ses} (hf : findS l d = i) (hx : l[i]? = some x) (hp : p x = true) (hl : lateB x idle now = false) : oldS p l d idle now = ((i : Int), l, 0) := by
 unfold oldS
 rw [if_neg (by rw [hm, ht]; simp), hf, Int.toNat_natCast, hx]
 simp only []
 rw [if_neg (by rw [hp]; simp), if_neg (by rw [hl]; decide)]
end
theorem useS_no {l r : List Ses} {d count idle now i e : Int} (h : oldS (fun x => x.isOpen) l d idle now = (i, r, e)) (he : e ≠ 0) : useS l d count idle now = (r, e) := by
 unfold useS
 rw [h]
 simp only []
 rw [if_neg he]
theorem useS_ok {l : List Ses} {d count idle now : Int} {i : Nat} {x : Ses} (h : oldS (fun x => x.isOpen) l d idle now = ((i : Int), l, 0)) (hx : l[i]? = some x) : useS l d count idle now = if count ≤ x.count then (l, 8) else if count = 18446744073709551615 then (l.eraseIdx i, 0) else (l.set i { { x with count := count } with last := now }, 0) := by
 unfold useS
 rw [h]
 simp only [if_true, Int.toNat_natCast, hx]
open Go.RowKit
theorem useS_spec (l : List Ses) (d count idle now : Int) : ∃ r e, useS l d count idle now = (r, e) ∧
  ((e = 1 ∧ r = l ∧ (mayS l = false ∨ timesB idle now = false)) ∨
  (mayS l = true ∧ timesB idle now = true ∧ ((e = 5 ∧ r = l ∧ (findS l d = -1 ∨ ∃ (i : Nat) (x : Ses), findS l d = i ∧ l[i]? = some x ∧ x.isOpen = false)) ∨
   ∃ (i : Nat) (x : Ses), findS l d = i ∧ l[i]? = some x ∧ x.isOpen = true ∧ ((e = 9 ∧ r = l.eraseIdx i ∧ lateB x idle now = true) ∨
    (lateB x idle now = false ∧ ((e = 8 ∧ r = l ∧ count ≤ x.count) ∨ (x.count < count ∧ count = 18446744073709551615 ∧ e = 0 ∧ r = l.eraseIdx i) ∨
     (x.count < count ∧ count ≠ 18446744073709551615 ∧ e = 0 ∧ r = l.set i { { x with count := count } with last := now })))))))  := by
 cases hm : mayS l with
 | false => exact ⟨l, 1, useS_no (oldS_1 (.inl hm)) (by decide), .inl ⟨rfl, rfl, .inl rfl⟩⟩
 | true =>
 cases ht : timesB idle now with
 | false => exact ⟨l, 1, useS_no (oldS_1 (.inr ht)) (by decide), .inl ⟨rfl, rfl, .inr rfl⟩⟩
 | true =>
 have hge := findS_ge l d
 by_cases hn : findS l d = -1
 ·exact ⟨l, 5, useS_no (oldS_5 hm ht hn) (by decide), .inr ⟨rfl, rfl, .inl ⟨rfl, rfl, .inl hn⟩⟩⟩
 obtain ⟨i, hi⟩ : ∃ i : Nat, findS l d = i := ⟨(findS l d).toNat, by omega⟩
 have hlt : i < l.length := by omega
 obtain ⟨x, hx⟩ : ∃ x, l[i]? = some x := ⟨_, List.getElem?_eq_getElem hlt⟩
 cases hp : x.isOpen with
 | false => exact ⟨l, 5, useS_no (oldS_5' hm ht hi hx hp) (by decide), .inr ⟨rfl, rfl, .inl ⟨rfl, rfl, .inr ⟨i, x, hi, hx, hp⟩⟩⟩⟩
 | true =>
 cases hl : lateB x idle now with
 | true => exact ⟨l.eraseIdx i, 9, useS_no (oldS_9 hm ht hi hx hp hl) (by decide), .inr ⟨rfl, rfl, .inr ⟨i, x, hi, hx, hp, .inl ⟨rfl, rfl, hl⟩⟩⟩⟩
 | false =>
 have hu := useS_ok (count := count) (oldS_0 hm ht hi hx hp hl) hx
 by_cases hc : count ≤ x.count
 ·exact ⟨l, 8, by rw [hu, if_pos hc], .inr ⟨rfl, rfl, .inr ⟨i, x, hi, hx, hp, .inr ⟨hl, .inl ⟨rfl, rfl, hc⟩⟩⟩⟩⟩
 ·by_cases hmx : count = 18446744073709551615
  ·exact ⟨l.eraseIdx i, 0, by rw [hu, if_neg hc, if_pos hmx], .inr ⟨rfl, rfl, .inr ⟨i, x, hi, hx, hp, .inr ⟨hl, .inr (.inl ⟨by omega, hmx, rfl, rfl⟩)⟩⟩⟩⟩
  ·exact ⟨_, 0, by rw [hu, if_neg hc, if_neg hmx], .inr ⟨rfl, rfl, .inr ⟨i, x, hi, hx, hp, .inr ⟨hl, .inr (.inr ⟨by omega, hmx, rfl, rfl⟩)⟩⟩⟩⟩
theorem useS_len {l : List Ses} {d count idle now : Int} {r : List Ses} {e : Int} (h : useS l d count idle now = (r, e)) : r.length ≤ l.length := by
 obtain ⟨r', e', h', hc⟩ := useS_spec l d count idle now
 rw [h] at h'
 cases h'
 rcases hc with ⟨_, rfl, _⟩ | ⟨_, _, ⟨_, rfl, _⟩ | ⟨i, x, _, _, _, ⟨_, rfl, _⟩ | ⟨_, ⟨_, rfl, _⟩ | ⟨_, _, _, rfl⟩ | ⟨_, _, _, rfl⟩⟩⟩⟩
 ·exact Nat.le_refl _
 ·exact Nat.le_refl _
 ·exact (List.eraseIdx_sublist _ _).length_le
 ·exact Nat.le_refl _
 ·exact (List.eraseIdx_sublist _ _).length_le
 ·rw [List.length_set]; exact Nat.le_refl _
end Go.Proofs.YtdinphnljokigaaGreat.P
end

section
namespace Go.Proofs.YtdinphnljokigaaGreat.P
open Go.RowKit Go.Lib Go.Proofs.YtdinphnljokigaaGreatW.PrintWords Go.Proofs.YtdinphnljokigaaGreatW.PrintLast Go.Proofs.YtdinphnljokigaaGreatW.PrintMore
theorem proved_any (M : Mdl) (a : Ac) (vU vT vK vD vA : Value) (w0 w : World) (base g : Nat) (rb : Nat → Prop) (hm : MBox w base g rb M vU vT vK vD) (hB : Below base w0 w) (hb : base ≤ w.heap.size) (hT : M.T.length < 1000000) (hD : M.D.length < 1000000) (hW : wfF a.F) (hS : ∀ x ∈ M.T, wfS x) (hA : Told k24 w vA a.T.f2) :
  Calls Tryz.prog 65 #[.pointer (some ⟨g, 0, none⟩), .agg (aca a vA)] w fun e w' => ∃ vT' vD', e = .returned (.int .i64 (provedM M a).2) ∧ w'.heap[g]? = some (.cells (mca (provedM M a).1 vU vT' vK vD') 42 (0, 0)) ∧ MdO w' rb (provedM M a).1 vU vT' vK vD' ∧ Below base w0 w' := by
 by_cases hf0 : findS M.T a.F.sess = -1
 ·exact proved_0 M a vU vT vK vD vA w0 w base g rb hm hB hb hT hD hW hS hA hf0
 have hge := findS_ge M.T a.F.sess
 obtain ⟨i, hf⟩ : ∃ i : Nat, findS M.T a.F.sess = i := ⟨(findS M.T a.F.sess).toNat, by omega⟩
 have hi : i < M.T.length := by omega
 obtain ⟨x, hx⟩ : ∃ x, M.T[i]? = some x := ⟨_, List.getElem?_eq_getElem hi⟩
 by_cases k4 : a.F.kind = 4
 ·cases ho : x.isOpen
  ·exact proved_1 M a vU vT vK vD vA w0 w base g rb hm hB hb hT hD hW hS hA i x hf hi hx k4 ho
  cases hp : isP x a.F
  ·exact proved_2b M a vU vT vK vD vA w0 w base g rb hm hB hb hT hD hW hS hA i x hf hi hx k4 ho hp
  cases hq : sameT (proofT x a.F) a.T
  ·exact proved_3b M a vU vT vK vD vA w0 w base g rb hm hB hb hT hD hW hS hA i x hf hi hx k4 ho hp hq
  obtain ⟨T1, e1, hu⟩ : ∃ T1 e1, useS M.T x.draw a.F.count M.idle M.now = (T1, e1) := ⟨_, _, rfl⟩
  by_cases he : e1 = 0
  ·cases hr : mayR (roleU M.U x.user) a.F.cmd
   ·exact proved_6 M a vU vT vK vD vA w0 w base g rb hm hB hb hT hD hW hS hA i x hf hi hx k4 ho hp hq T1 e1 hu he hr
   by_cases hc : a.F.cmd = 7
   ·by_cases hg : a.F.arg = 0
    ·exact proved_8 M a vU vT vK vD vA w0 w base g rb hm hB hb hT hD hW hS hA i x hf hi hx k4 ho hp hq T1 e1 hu he hr hc hg (Nat.lt_of_le_of_lt (useS_len hu) hT)
    ·exact proved_7b M a vU vT vK vD vA w0 w base g rb hm hB hb hT hD hW hS hA i x hf hi hx k4 ho hp hq T1 e1 hu he hr hc hg
   ·exact proved_7a M a vU vT vK vD vA w0 w base g rb hm hB hb hT hD hW hS hA i x hf hi hx k4 ho hp hq T1 e1 hu he hr hc
  ·exact proved_5 M a vU vT vK vD vA w0 w base g rb hm hB hb hT hD hW hS hA i x hf hi hx k4 ho hp hq T1 e1 hu he
 ·cases hp : isP x a.F
  ·exact proved_2a M a vU vT vK vD vA w0 w base g rb hm hB hb hT hD hW hS hA i x hf hi hx k4 hp
  cases hq : sameT (proofT x a.F) a.T
  ·exact proved_3a M a vU vT vK vD vA w0 w base g rb hm hB hb hT hD hW hS hA i x hf hi hx k4 hp hq
  ·exact proved_4 M a vU vT vK vD vA w0 w base g rb hm hB hb hT hD hW hS hA i x hf hi hx k4 hp hq
end Go.Proofs.YtdinphnljokigaaGreat.P
end
