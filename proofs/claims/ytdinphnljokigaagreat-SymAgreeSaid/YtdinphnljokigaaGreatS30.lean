/- What LawSymAgree rests on, part 30: several texts put together. -/
import Derived.Test.YtdinphnljokigaaGreatS27
import Derived.Test.YtdinphnljokigaaGreatS3
set_option linter.unusedVariables false
set_option linter.unnecessarySimpa false
set_option linter.unusedSimpArgs false
set_option maxRecDepth 100000
section
namespace Go.Proofs.YtdinphnljokigaaGreat.P
open Go.RowKit Go.Lib Go.Proofs.YtdinphnljokigaaGreatW.PrintWords Go.Proofs.YtdinphnljokigaaGreatW.PrintLast Go.Proofs.YtdinphnljokigaaGreatW.PrintMore
set_option maxHeartbeats 8000000 in
theorem proved_0 (M : Mdl) (a : Ac) (vU vT vK vD vA : Value) (w0 w : World) (base g : Nat) (rb : Nat → Prop) (hm : MBox w base g rb M vU vT vK vD) (hB : Below base w0 w) (hb : base ≤ w.heap.size) (hT : M.T.length < 1000000) (hD : M.D.length < 1000000) (hW : wfF a.F) (hS : ∀ x ∈ M.T, wfS x) (hA : Told k24 w vA a.T.f2) (hf : findS M.T a.F.sess = -1) :
  Calls Tryz.prog 65 #[.pointer (some ⟨g, 0, none⟩), .agg (aca a vA)] w fun e w' => ∃ vT' vD', e = .returned (.int .i64 (provedM M a).2) ∧ w'.heap[g]? = some (.cells (mca (provedM M a).1 vU vT' vK vD') 42 (0, 0)) ∧ MdO w' rb (provedM M a).1 vU vT' vK vD' ∧ Below base w0 w' := by
 have HE := aq_ (show provedM M a = (M, 5) by unfold provedM; rw [if_pos hf])
 obtain ⟨⟨AU, cU, rfl⟩, ⟨AT, cT, rfl⟩, ⟨AK, cK, rfl⟩, ⟨AD, cD, rfl⟩⟩ := mbox_slices hm
 obtain ⟨AA, cA, rfl, hcA, hCA⟩ := hA
 have MB := aq_ hm
 have HB := aq_ hB
 have LB := aq_ hb
 have TL := aq_ hT
 have DL := aq_ hD
 have HW := aq_ hW
 have TA := aq_ hCA
 have CA := aq_ hcA
 have HF := aq_ hf
 clear hm hB hb hT hD hW hS hCA hcA hf
 go_enter Tryz.func65, Tryz.ntmps65
 go_wp2_with ((with_reducible refine box_Ac (.tmp 1) (x := a) (v := .slice AA a.T.f2.length cA) rfl rfl rfl ?_); intro ga hga wS hbox hb; have MS := aq_ (mbox_below MB.out hb); have AS := aq_ hbox; have TS := aq_ (Kd.C_below TA.out hb); have HBS := aq_ (HB.out.trans (hb.mono LB.out)); have LBS := aq_ (Nat.le_trans LB.out hb.size); have NA := aq_ (show g ≠ ga by have := blk_lt MB.out.1; omega); have BS := aq_ (Below.refl wS.heap.size wS); have LS := aq_ (Nat.le_refl wS.heap.size); have GAL := aq_ (blk_lt AS.out); have OA := aq_ (show ∀ k, (Value.slice AD M.D.length cD).ownBlock = some k → k ≠ ga from fun k hk e => mbox_ownD MB.out k hk (by omega)); have OD := aq_ (mbox_ownD MS.out); clear hga hbox hb MB HB LB TA)
 refine wp_scope_goto 0 rfl ?_
 go_upto_region 6 with (first
  | ((with_reducible refine alloc_Se rfl rfl ?_); intro gs hgs w1 hbox hb hsz; have NG := aq_ (show g ≠ gs by have := blk_lt MS.out.1; have := LS.out; omega); have GSL := aq_ (show wS.heap.size ≤ gs by have := LS.out; omega); have OS := aq_ (show ∀ k, (Value.slice AD M.D.length cD).ownBlock = some k → k ≠ gs from fun k hk e => OD.out k hk (by rw [e]; exact GSL.out)); replace BS := aq_ (BS.out.trans (Below.mono hb LS.out)); replace LS := aq_ (Nat.le_trans LS.out (Below.size hb)); have XB := aq_ hbox; clear hbox hb hsz hgs)
  | ((with_reducible refine alloc_Te rfl rfl ?_); intro gt hgt w2 hbox hb; have GT := aq_ (show gs < gt by have := blk_lt XB.out; omega); replace BS := aq_ (BS.out.trans (Below.mono hb LS.out)); replace LS := aq_ (Nat.le_trans LS.out (Below.size hb)); replace XB := aq_ (blk_below XB.out hb); have TB := aq_ hbox; have c1 := (cellsA_F (blk_below AS.out BS.out)).1; clear hbox hb hgt))
 clear c1
 replace BS := aq_ (BS.out.trans (Below.mono (below_drew (Below.refl w2.heap.size w2)) LS.out))
 replace LS := aq_ (Nat.le_trans LS.out (Below.size (below_drew (Below.refl w2.heap.size w2))))
 replace XB := aq_ (blk_drew XB.out)
 replace TB := aq_ (blk_drew TB.out)
 refine start_ (n := 9) (S := fun w' => w'.cell? ⟨g, 2, none⟩ = some (.slice AT M.T.length cT) ∧ w'.cell? ⟨ga, 3, none⟩ = some (.int .u64 a.F.sess)) (ds := []) #[false, false, false, false, false, false, false, false, false] (by kernel_rfl) rfl rfl ⟨blk_cell (mbox_below MS.out BS.out).1 2, (cellsA_F (blk_below AS.out BS.out)).2.2.1⟩ (fun hHeld => ?_)
 refine pz_ 0 (some 15) (bt_ 9 1) ?_
 refine pz_ 1 (some 16) (bt_ 9 3) ?_
 refine pz_ 2 (some 17) (bt_ 9 7) ?_
 refine pz_ 4 (some 19) (bt_ 9 23) ?_
 refine pz_ 5 (some 20) (bt_ 9 55) ?_
 refine tz_ 3 (some 18) (bt_ 9 63) hHeld ?_
 refine tz_ 6 (some 21) (bt_ 9 127) hHeld ?_
 refine gz_ 7 (some 22) (bt_ 9 255) Tryz.func73 #[.slice AT M.T.length cT, .int .u64 a.F.sess] fun K hK => ?_
 with_reducible refine (find_any a.F.sess M.T AT cT _ (mbox_T (mbox_below MS.out BS.out)).1).mono ?_
 rintro e wq ⟨he_, hb_⟩
 rw [HF.out] at he_
 subst he_
 refine ⟨_, rfl, ?_⟩
 replace BS := aq_ (BS.out.trans (Below.mono hb_ LS.out))
 replace LS := aq_ (Nat.le_trans LS.out (Below.size hb_))
 replace XB := aq_ (blk_below XB.out hb_)
 replace TB := aq_ (blk_below TB.out hb_)
 clear hb_
 refine hK.out _ _ ⟨blk_cell (mbox_below MS.out BS.out).1 2, (cellsA_F (blk_below AS.out BS.out)).2.2.1⟩ (fun hHeld => ?_)
 clear hK K
 refine nz_ ?_
 refine pz_ 8 (some 10) (bt_ 9 511) ?_
 refine done_ (by kernel_rfl) ?_
 go_wp2
 go_step3
 refine ⟨rfl, ?_⟩
 go_wp2
 rw [Exit.noGoto_ret]
 go_ret
 exact ⟨_, _, by rw [HE.out]; rfl, by rw [HE.out]; exact (mbox_below MS.out BS.out).1, by rw [HE.out]; exact mbox_mdo (mbox_below MS.out BS.out), HBS.out.trans (BS.out.mono LBS.out)⟩
set_option maxHeartbeats 8000000 in
theorem proved_1 (M : Mdl) (a : Ac) (vU vT vK vD vA : Value) (w0 w : World) (base g : Nat) (rb : Nat → Prop) (hm : MBox w base g rb M vU vT vK vD) (hB : Below base w0 w) (hb : base ≤ w.heap.size) (hT : M.T.length < 1000000) (hD : M.D.length < 1000000) (hW : wfF a.F) (hS : ∀ x ∈ M.T, wfS x) (hA : Told k24 w vA a.T.f2) (i : Nat) (x : Ses) (hf : findS M.T a.F.sess = i) (hi : i < M.T.length) (hx : M.T[i]? = some x) (k4 : a.F.kind = 4) (ho : x.isOpen = false) :
  Calls Tryz.prog 65 #[.pointer (some ⟨g, 0, none⟩), .agg (aca a vA)] w fun e w' => ∃ vT' vD', e = .returned (.int .i64 (provedM M a).2) ∧ w'.heap[g]? = some (.cells (mca (provedM M a).1 vU vT' vK vD') 42 (0, 0)) ∧ MdO w' rb (provedM M a).1 vU vT' vK vD' ∧ Below base w0 w' := by
 have HE := aq_ (show provedM M a = (M, 5) by rw [provedM_at hf hx]; unfold foundM; rw [if_pos ⟨k4, ho⟩])
 have hk : (a.F.kind == 4) = true := by simpa using k4
 have HO := aq_ ho
 clear k4 ho
 obtain ⟨⟨AU, cU, rfl⟩, ⟨AT, cT, rfl⟩, ⟨AK, cK, rfl⟩, ⟨AD, cD, rfl⟩⟩ := mbox_slices hm
 obtain ⟨AA, cA, rfl, hcA, hCA⟩ := hA
 have MB := aq_ hm
 have HB := aq_ hB
 have LB := aq_ hb
 have TL := aq_ hT
 have DL := aq_ hD
 have HW := aq_ hW
 have TA := aq_ hCA
 have CA := aq_ hcA
 have HX := aq_ (hS x (List.mem_of_getElem? hx))
 have HI := aq_ hx
 have HF := aq_ hf
 obtain ⟨ad, rfl⟩ := some_S (mbox_T hm).1 hi hx
 have hne : ((i : Int) == -1) = false := by simp
 clear hm hB hb hT hD hW hS hCA hcA hx hf
 go_enter Tryz.func65, Tryz.ntmps65
 go_wp2_with ((with_reducible refine box_Ac (.tmp 1) (x := a) (v := .slice AA a.T.f2.length cA) rfl rfl rfl ?_); intro ga hga wS hbox hb; have MS := aq_ (mbox_below MB.out hb); have AS := aq_ hbox; have TS := aq_ (Kd.C_below TA.out hb); have HBS := aq_ (HB.out.trans (hb.mono LB.out)); have LBS := aq_ (Nat.le_trans LB.out hb.size); have NA := aq_ (show g ≠ ga by have := blk_lt MB.out.1; omega); have BS := aq_ (Below.refl wS.heap.size wS); have LS := aq_ (Nat.le_refl wS.heap.size); have GAL := aq_ (blk_lt AS.out); have OA := aq_ (show ∀ k, (Value.slice AD M.D.length cD).ownBlock = some k → k ≠ ga from fun k hk e => mbox_ownD MB.out k hk (by omega)); have OD := aq_ (mbox_ownD MS.out); clear hga hbox hb MB HB LB TA)
 refine wp_scope_goto 0 rfl ?_
 go_upto_region 6 with (first
  | ((with_reducible refine alloc_Se rfl rfl ?_); intro gs hgs w1 hbox hb hsz; have NG := aq_ (show g ≠ gs by have := blk_lt MS.out.1; have := LS.out; omega); have GSL := aq_ (show wS.heap.size ≤ gs by have := LS.out; omega); have OS := aq_ (show ∀ k, (Value.slice AD M.D.length cD).ownBlock = some k → k ≠ gs from fun k hk e => OD.out k hk (by rw [e]; exact GSL.out)); replace BS := aq_ (BS.out.trans (Below.mono hb LS.out)); replace LS := aq_ (Nat.le_trans LS.out (Below.size hb)); have XB := aq_ hbox; clear hbox hb hsz hgs)
  | ((with_reducible refine alloc_Te rfl rfl ?_); intro gt hgt w2 hbox hb; have GT := aq_ (show gs < gt by have := blk_lt XB.out; omega); replace BS := aq_ (BS.out.trans (Below.mono hb LS.out)); replace LS := aq_ (Nat.le_trans LS.out (Below.size hb)); replace XB := aq_ (blk_below XB.out hb); have TB := aq_ hbox; have c1 := (cellsA_F (blk_below AS.out BS.out)).1; clear hbox hb hgt))
 clear c1
 replace BS := aq_ (BS.out.trans (Below.mono (below_drew (Below.refl w2.heap.size w2)) LS.out))
 replace LS := aq_ (Nat.le_trans LS.out (Below.size (below_drew (Below.refl w2.heap.size w2))))
 replace XB := aq_ (blk_drew XB.out)
 replace TB := aq_ (blk_drew TB.out)
 refine start_ (n := 9) (S := fun w' => w'.cell? ⟨g, 2, none⟩ = some (.slice (some ad) M.T.length cT) ∧ w'.cell? ⟨ga, 3, none⟩ = some (.int .u64 a.F.sess)) (ds := []) #[false, false, false, false, false, false, false, false, false] (by kernel_rfl) rfl rfl ⟨blk_cell (mbox_below MS.out BS.out).1 2, (cellsA_F (blk_below AS.out BS.out)).2.2.1⟩ (fun hHeld => ?_)
 refine pz_ 0 (some 15) (bt_ 9 1) ?_
 refine pz_ 1 (some 16) (bt_ 9 3) ?_
 refine pz_ 2 (some 17) (bt_ 9 7) ?_
 refine pz_ 4 (some 19) (bt_ 9 23) ?_
 refine pz_ 5 (some 20) (bt_ 9 55) ?_
 refine tz_ 3 (some 18) (bt_ 9 63) hHeld ?_
 refine tz_ 6 (some 21) (bt_ 9 127) hHeld ?_
 refine gz_ 7 (some 22) (bt_ 9 255) Tryz.func73 #[.slice (some ad) M.T.length cT, .int .u64 a.F.sess] fun K hK => ?_
 with_reducible refine (find_any a.F.sess M.T (some ad) cT _ (mbox_T (mbox_below MS.out BS.out)).1).mono ?_
 rintro e wq ⟨he_, hb_⟩
 rw [HF.out] at he_
 subst he_
 refine ⟨_, rfl, ?_⟩
 replace BS := aq_ (BS.out.trans (Below.mono hb_ LS.out))
 replace LS := aq_ (Nat.le_trans LS.out (Below.size hb_))
 replace XB := aq_ (blk_below XB.out hb_)
 replace TB := aq_ (blk_below TB.out hb_)
 clear hb_
 refine hK.out _ _ ⟨blk_cell (mbox_below MS.out BS.out).1 2, (cellsA_F (blk_below AS.out BS.out)).2.2.1⟩ (fun hHeld => ?_)
 clear hK K
 refine nz_ ?_
 refine pz_ 8 (some 10) (bt_ 9 511) ?_
 refine done_ (by kernel_rfl) ?_
 have c2 : wq.cell? ⟨g, 2, none⟩ = some (.slice (some ad) M.T.length cT) := blk_cell (mbox_below MS.out BS.out).1 2
 have c36 := open_S (mbox_T (mbox_below MS.out BS.out)).1 hi HI.out
 rw [HO.out] at c36
 go_wp2
 go_step3
 refine ⟨rfl, ?_⟩
 go_wp2
 rw [Exit.noGoto_ret]
 go_ret
 exact ⟨_, _, by rw [HE.out]; rfl, by rw [HE.out]; exact (mbox_below MS.out BS.out).1, by rw [HE.out]; exact mbox_mdo (mbox_below MS.out BS.out), HBS.out.trans (BS.out.mono LBS.out)⟩
set_option maxHeartbeats 8000000 in
theorem proved_2a (M : Mdl) (a : Ac) (vU vT vK vD vA : Value) (w0 w : World) (base g : Nat) (rb : Nat → Prop) (hm : MBox w base g rb M vU vT vK vD) (hB : Below base w0 w) (hb : base ≤ w.heap.size) (hT : M.T.length < 1000000) (hD : M.D.length < 1000000) (hW : wfF a.F) (hS : ∀ x ∈ M.T, wfS x) (hA : Told k24 w vA a.T.f2) (i : Nat) (x : Ses) (hf : findS M.T a.F.sess = i) (hi : i < M.T.length) (hx : M.T[i]? = some x) (k4 : ¬ a.F.kind = 4) (hp : isP x a.F = false) :
  Calls Tryz.prog 65 #[.pointer (some ⟨g, 0, none⟩), .agg (aca a vA)] w fun e w' => ∃ vT' vD', e = .returned (.int .i64 (provedM M a).2) ∧ w'.heap[g]? = some (.cells (mca (provedM M a).1 vU vT' vK vD') 42 (0, 0)) ∧ MdO w' rb (provedM M a).1 vU vT' vK vD' ∧ Below base w0 w' := by
 have HE := aq_ (show provedM M a = (M, 7) by rw [provedM_at hf hx]; unfold foundM; rw [if_neg (fun h => k4 h.1)]; rw [if_pos hp])
 have hk : (a.F.kind == 4) = false := by simpa using k4
 have HP := aq_ hp
 clear k4
 clear hp
 obtain ⟨⟨AU, cU, rfl⟩, ⟨AT, cT, rfl⟩, ⟨AK, cK, rfl⟩, ⟨AD, cD, rfl⟩⟩ := mbox_slices hm
 obtain ⟨AA, cA, rfl, hcA, hCA⟩ := hA
 have MB := aq_ hm
 have HB := aq_ hB
 have LB := aq_ hb
 have TL := aq_ hT
 have DL := aq_ hD
 have HW := aq_ hW
 have TA := aq_ hCA
 have CA := aq_ hcA
 have HX := aq_ (hS x (List.mem_of_getElem? hx))
 have HI := aq_ hx
 have HF := aq_ hf
 obtain ⟨ad, rfl⟩ := some_S (mbox_T hm).1 hi hx
 have hne : ((i : Int) == -1) = false := by simp
 clear hm hB hb hT hD hW hS hCA hcA hx hf
 go_enter Tryz.func65, Tryz.ntmps65
 go_wp2_with ((with_reducible refine box_Ac (.tmp 1) (x := a) (v := .slice AA a.T.f2.length cA) rfl rfl rfl ?_); intro ga hga wS hbox hb; have MS := aq_ (mbox_below MB.out hb); have AS := aq_ hbox; have TS := aq_ (Kd.C_below TA.out hb); have HBS := aq_ (HB.out.trans (hb.mono LB.out)); have LBS := aq_ (Nat.le_trans LB.out hb.size); have NA := aq_ (show g ≠ ga by have := blk_lt MB.out.1; omega); have BS := aq_ (Below.refl wS.heap.size wS); have LS := aq_ (Nat.le_refl wS.heap.size); have GAL := aq_ (blk_lt AS.out); have OA := aq_ (show ∀ k, (Value.slice AD M.D.length cD).ownBlock = some k → k ≠ ga from fun k hk e => mbox_ownD MB.out k hk (by omega)); have OD := aq_ (mbox_ownD MS.out); clear hga hbox hb MB HB LB TA)
 refine wp_scope_goto 0 rfl ?_
 go_upto_region 6 with (first
  | ((with_reducible refine alloc_Se rfl rfl ?_); intro gs hgs w1 hbox hb hsz; have NG := aq_ (show g ≠ gs by have := blk_lt MS.out.1; have := LS.out; omega); have GSL := aq_ (show wS.heap.size ≤ gs by have := LS.out; omega); have OS := aq_ (show ∀ k, (Value.slice AD M.D.length cD).ownBlock = some k → k ≠ gs from fun k hk e => OD.out k hk (by rw [e]; exact GSL.out)); replace BS := aq_ (BS.out.trans (Below.mono hb LS.out)); replace LS := aq_ (Nat.le_trans LS.out (Below.size hb)); have XB := aq_ hbox; clear hbox hb hsz hgs)
  | ((with_reducible refine alloc_Te rfl rfl ?_); intro gt hgt w2 hbox hb; have GT := aq_ (show gs < gt by have := blk_lt XB.out; omega); replace BS := aq_ (BS.out.trans (Below.mono hb LS.out)); replace LS := aq_ (Nat.le_trans LS.out (Below.size hb)); replace XB := aq_ (blk_below XB.out hb); have TB := aq_ hbox; have c1 := (cellsA_F (blk_below AS.out BS.out)).1; clear hbox hb hgt))
 clear c1
 replace BS := aq_ (BS.out.trans (Below.mono (below_drew (Below.refl w2.heap.size w2)) LS.out))
 replace LS := aq_ (Nat.le_trans LS.out (Below.size (below_drew (Below.refl w2.heap.size w2))))
 replace XB := aq_ (blk_drew XB.out)
 replace TB := aq_ (blk_drew TB.out)
 refine start_ (n := 9) (S := fun w' => w'.cell? ⟨g, 2, none⟩ = some (.slice (some ad) M.T.length cT) ∧ w'.cell? ⟨ga, 3, none⟩ = some (.int .u64 a.F.sess)) (ds := []) #[false, false, false, false, false, false, false, false, false] (by kernel_rfl) rfl rfl ⟨blk_cell (mbox_below MS.out BS.out).1 2, (cellsA_F (blk_below AS.out BS.out)).2.2.1⟩ (fun hHeld => ?_)
 refine pz_ 0 (some 15) (bt_ 9 1) ?_
 refine pz_ 1 (some 16) (bt_ 9 3) ?_
 refine pz_ 2 (some 17) (bt_ 9 7) ?_
 refine pz_ 4 (some 19) (bt_ 9 23) ?_
 refine pz_ 5 (some 20) (bt_ 9 55) ?_
 refine tz_ 3 (some 18) (bt_ 9 63) hHeld ?_
 refine tz_ 6 (some 21) (bt_ 9 127) hHeld ?_
 refine gz_ 7 (some 22) (bt_ 9 255) Tryz.func73 #[.slice (some ad) M.T.length cT, .int .u64 a.F.sess] fun K hK => ?_
 with_reducible refine (find_any a.F.sess M.T (some ad) cT _ (mbox_T (mbox_below MS.out BS.out)).1).mono ?_
 rintro e wq ⟨he_, hb_⟩
 rw [HF.out] at he_
 subst he_
 refine ⟨_, rfl, ?_⟩
 replace BS := aq_ (BS.out.trans (Below.mono hb_ LS.out))
 replace LS := aq_ (Nat.le_trans LS.out (Below.size hb_))
 replace XB := aq_ (blk_below XB.out hb_)
 replace TB := aq_ (blk_below TB.out hb_)
 clear hb_
 refine hK.out _ _ ⟨blk_cell (mbox_below MS.out BS.out).1 2, (cellsA_F (blk_below AS.out BS.out)).2.2.1⟩ (fun hHeld => ?_)
 clear hK K
 refine nz_ ?_
 refine pz_ 8 (some 10) (bt_ 9 511) ?_
 refine done_ (by kernel_rfl) ?_
 have c2 : wq.cell? ⟨g, 2, none⟩ = some (.slice (some ad) M.T.length cT) := blk_cell (mbox_below MS.out BS.out).1 2
 have c36 := open_S (mbox_T (mbox_below MS.out BS.out)).1 hi HI.out
 go_wp2_with (first
  | ((with_reducible refine gate_load 33 (.tmp 44) rfl ?_); refine load_Sw (.tmp 44) rfl (by rfl) (p := ad.add (i * 39)) rfl (row_S (mbox_T (mbox_below MS.out BS.out)).1 hi HI.out) ?_)
  | ((with_reducible refine store_Se2 (.tmp 5) (.tmp 45) rfl rfl rfl rfl rfl XB.out ?_); intro w3 hx1 hs1 hb1 hf1; have BS' := aq_ (BS.out.trans (hb1 _ GSL.out)); have LS' := aq_ (show wS.heap.size ≤ w3.heap.size by rw [hs1]; exact LS.out); have TB' := aq_ ((hf1 gt (Nat.ne_of_gt GT.out)).trans TB.out); clear BS LS XB TB c2; have BS := BS'; have LS := LS'; have XB := aq_ hx1; have TB := TB'; clear BS' LS' TB' hx1 hs1 hb1 hf1)
  | (with_reducible refine load_S (.tmp 5) rfl rfl (p := ⟨gs, 0, none⟩) rfl (cells_box XB.out) ?_)
  | (with_reducible refine load_F (.tmp 48) rfl rfl (p := ⟨ga, 1, none⟩) rfl (boxA_F (blk_below AS.out BS.out)) ?_)
  | ((go_at_call 18; (with_reducible refine (proof_any x a.F _ HX.out HW.out).mono ?_)); rw [HP.out]; rintro e w7 ⟨vp, rfl, hV, hb⟩; obtain ⟨Ap, cp, rfl⟩ := Kd.V_slice hV; have PV := aq_ hV; have PQ := aq_ (blk_lt TB.out); replace BS := aq_ (BS.out.trans (Below.mono hb LS.out)); replace LS := aq_ (Nat.le_trans LS.out (Below.size hb)); replace XB := aq_ (blk_below XB.out hb); replace TB := aq_ (blk_below TB.out hb); clear hb hV)
  | ((with_reducible refine store_Te2 (.tmp 6) (.tmp 51) rfl rfl rfl rfl rfl rfl TB.out ?_); intro w4 hx1 hs1 hb1 hf1; have BS' := aq_ (BS.out.trans (hb1 _ (Nat.le_trans GSL.out (Nat.le_of_lt GT.out)))); have LS' := aq_ (show wS.heap.size ≤ w4.heap.size by rw [hs1]; exact LS.out); have XB' := aq_ ((hf1 gs (Nat.ne_of_lt GT.out)).trans XB.out); have PV' := aq_ (Kd.V_step PV.out (w1 := w4) (fun k hk _ => hf1 k (by have := PQ.out; omega))); clear BS LS XB TB PV; have BS := BS'; have LS := LS'; have XB := XB'; have TB := aq_ hx1; have PV := PV'; obtain ⟨⟨m0, m1, m2⟩, _⟩ := cells3 TB.out; obtain ⟨k0, k1, k2⟩ := cellsA_T (blk_below AS.out BS.out); clear BS' LS' XB' PV' hx1 hs1 hb1 hf1)
  | ((go_at_call 80; (with_reducible refine (sameT_any (proofT x a.F) a.T Ap AA cp cA _ (told_C' (told_V PV.out)).2.2 (told_C' (told_V PV.out)).2.1 (Kd.C_below TS.out BS.out) CA.out).mono ?_)); rw [HQ.out]; rintro e w8 ⟨rfl, hb⟩; clear m0 m1 m2 k0 k1 k2; replace BS := aq_ (BS.out.trans (Below.mono hb LS.out)); replace LS := aq_ (Nat.le_trans LS.out (Below.size hb)); replace XB := aq_ (blk_below XB.out hb); clear hb TB))
 go_step3
 refine ⟨rfl, ?_⟩
 go_wp2
 rw [Exit.noGoto_ret]
 go_ret
 exact ⟨_, _, by rw [HE.out]; rfl, by rw [HE.out]; exact (mbox_below MS.out BS.out).1, by rw [HE.out]; exact mbox_mdo (mbox_below MS.out BS.out), HBS.out.trans (BS.out.mono LBS.out)⟩
set_option maxHeartbeats 8000000 in
theorem proved_2b (M : Mdl) (a : Ac) (vU vT vK vD vA : Value) (w0 w : World) (base g : Nat) (rb : Nat → Prop) (hm : MBox w base g rb M vU vT vK vD) (hB : Below base w0 w) (hb : base ≤ w.heap.size) (hT : M.T.length < 1000000) (hD : M.D.length < 1000000) (hW : wfF a.F) (hS : ∀ x ∈ M.T, wfS x) (hA : Told k24 w vA a.T.f2) (i : Nat) (x : Ses) (hf : findS M.T a.F.sess = i) (hi : i < M.T.length) (hx : M.T[i]? = some x) (k4 : a.F.kind = 4) (ho : x.isOpen = true) (hp : isP x a.F = false) :
  Calls Tryz.prog 65 #[.pointer (some ⟨g, 0, none⟩), .agg (aca a vA)] w fun e w' => ∃ vT' vD', e = .returned (.int .i64 (provedM M a).2) ∧ w'.heap[g]? = some (.cells (mca (provedM M a).1 vU vT' vK vD') 42 (0, 0)) ∧ MdO w' rb (provedM M a).1 vU vT' vK vD' ∧ Below base w0 w' := by
 have HE := aq_ (show provedM M a = (M, 7) by rw [provedM_at hf hx]; unfold foundM; rw [if_neg (by rw [ho]; simp)]; rw [if_pos hp])
 have hk : (a.F.kind == 4) = true := by simpa using k4
 have HO := aq_ ho
 have HP := aq_ hp
 clear k4 ho
 clear hp
 obtain ⟨⟨AU, cU, rfl⟩, ⟨AT, cT, rfl⟩, ⟨AK, cK, rfl⟩, ⟨AD, cD, rfl⟩⟩ := mbox_slices hm
 obtain ⟨AA, cA, rfl, hcA, hCA⟩ := hA
 have MB := aq_ hm
 have HB := aq_ hB
 have LB := aq_ hb
 have TL := aq_ hT
 have DL := aq_ hD
 have HW := aq_ hW
 have TA := aq_ hCA
 have CA := aq_ hcA
 have HX := aq_ (hS x (List.mem_of_getElem? hx))
 have HI := aq_ hx
 have HF := aq_ hf
 obtain ⟨ad, rfl⟩ := some_S (mbox_T hm).1 hi hx
 have hne : ((i : Int) == -1) = false := by simp
 clear hm hB hb hT hD hW hS hCA hcA hx hf
 go_enter Tryz.func65, Tryz.ntmps65
 go_wp2_with ((with_reducible refine box_Ac (.tmp 1) (x := a) (v := .slice AA a.T.f2.length cA) rfl rfl rfl ?_); intro ga hga wS hbox hb; have MS := aq_ (mbox_below MB.out hb); have AS := aq_ hbox; have TS := aq_ (Kd.C_below TA.out hb); have HBS := aq_ (HB.out.trans (hb.mono LB.out)); have LBS := aq_ (Nat.le_trans LB.out hb.size); have NA := aq_ (show g ≠ ga by have := blk_lt MB.out.1; omega); have BS := aq_ (Below.refl wS.heap.size wS); have LS := aq_ (Nat.le_refl wS.heap.size); have GAL := aq_ (blk_lt AS.out); have OA := aq_ (show ∀ k, (Value.slice AD M.D.length cD).ownBlock = some k → k ≠ ga from fun k hk e => mbox_ownD MB.out k hk (by omega)); have OD := aq_ (mbox_ownD MS.out); clear hga hbox hb MB HB LB TA)
 refine wp_scope_goto 0 rfl ?_
 go_upto_region 6 with (first
  | ((with_reducible refine alloc_Se rfl rfl ?_); intro gs hgs w1 hbox hb hsz; have NG := aq_ (show g ≠ gs by have := blk_lt MS.out.1; have := LS.out; omega); have GSL := aq_ (show wS.heap.size ≤ gs by have := LS.out; omega); have OS := aq_ (show ∀ k, (Value.slice AD M.D.length cD).ownBlock = some k → k ≠ gs from fun k hk e => OD.out k hk (by rw [e]; exact GSL.out)); replace BS := aq_ (BS.out.trans (Below.mono hb LS.out)); replace LS := aq_ (Nat.le_trans LS.out (Below.size hb)); have XB := aq_ hbox; clear hbox hb hsz hgs)
  | ((with_reducible refine alloc_Te rfl rfl ?_); intro gt hgt w2 hbox hb; have GT := aq_ (show gs < gt by have := blk_lt XB.out; omega); replace BS := aq_ (BS.out.trans (Below.mono hb LS.out)); replace LS := aq_ (Nat.le_trans LS.out (Below.size hb)); replace XB := aq_ (blk_below XB.out hb); have TB := aq_ hbox; have c1 := (cellsA_F (blk_below AS.out BS.out)).1; clear hbox hb hgt))
 clear c1
 replace BS := aq_ (BS.out.trans (Below.mono (below_drew (Below.refl w2.heap.size w2)) LS.out))
 replace LS := aq_ (Nat.le_trans LS.out (Below.size (below_drew (Below.refl w2.heap.size w2))))
 replace XB := aq_ (blk_drew XB.out)
 replace TB := aq_ (blk_drew TB.out)
 refine start_ (n := 9) (S := fun w' => w'.cell? ⟨g, 2, none⟩ = some (.slice (some ad) M.T.length cT) ∧ w'.cell? ⟨ga, 3, none⟩ = some (.int .u64 a.F.sess)) (ds := []) #[false, false, false, false, false, false, false, false, false] (by kernel_rfl) rfl rfl ⟨blk_cell (mbox_below MS.out BS.out).1 2, (cellsA_F (blk_below AS.out BS.out)).2.2.1⟩ (fun hHeld => ?_)
 refine pz_ 0 (some 15) (bt_ 9 1) ?_
 refine pz_ 1 (some 16) (bt_ 9 3) ?_
 refine pz_ 2 (some 17) (bt_ 9 7) ?_
 refine pz_ 4 (some 19) (bt_ 9 23) ?_
 refine pz_ 5 (some 20) (bt_ 9 55) ?_
 refine tz_ 3 (some 18) (bt_ 9 63) hHeld ?_
 refine tz_ 6 (some 21) (bt_ 9 127) hHeld ?_
 refine gz_ 7 (some 22) (bt_ 9 255) Tryz.func73 #[.slice (some ad) M.T.length cT, .int .u64 a.F.sess] fun K hK => ?_
 with_reducible refine (find_any a.F.sess M.T (some ad) cT _ (mbox_T (mbox_below MS.out BS.out)).1).mono ?_
 rintro e wq ⟨he_, hb_⟩
 rw [HF.out] at he_
 subst he_
 refine ⟨_, rfl, ?_⟩
 replace BS := aq_ (BS.out.trans (Below.mono hb_ LS.out))
 replace LS := aq_ (Nat.le_trans LS.out (Below.size hb_))
 replace XB := aq_ (blk_below XB.out hb_)
 replace TB := aq_ (blk_below TB.out hb_)
 clear hb_
 refine hK.out _ _ ⟨blk_cell (mbox_below MS.out BS.out).1 2, (cellsA_F (blk_below AS.out BS.out)).2.2.1⟩ (fun hHeld => ?_)
 clear hK K
 refine nz_ ?_
 refine pz_ 8 (some 10) (bt_ 9 511) ?_
 refine done_ (by kernel_rfl) ?_
 have c2 : wq.cell? ⟨g, 2, none⟩ = some (.slice (some ad) M.T.length cT) := blk_cell (mbox_below MS.out BS.out).1 2
 have c36 := open_S (mbox_T (mbox_below MS.out BS.out)).1 hi HI.out
 rw [HO.out] at c36
 go_wp2_with (first
  | ((with_reducible refine gate_load 33 (.tmp 44) rfl ?_); refine load_Sw (.tmp 44) rfl (by rfl) (p := ad.add (i * 39)) rfl (row_S (mbox_T (mbox_below MS.out BS.out)).1 hi HI.out) ?_)
  | ((with_reducible refine store_Se2 (.tmp 5) (.tmp 45) rfl rfl rfl rfl rfl XB.out ?_); intro w3 hx1 hs1 hb1 hf1; have BS' := aq_ (BS.out.trans (hb1 _ GSL.out)); have LS' := aq_ (show wS.heap.size ≤ w3.heap.size by rw [hs1]; exact LS.out); have TB' := aq_ ((hf1 gt (Nat.ne_of_gt GT.out)).trans TB.out); clear BS LS XB TB c2; have BS := BS'; have LS := LS'; have XB := aq_ hx1; have TB := TB'; clear BS' LS' TB' hx1 hs1 hb1 hf1)
  | (with_reducible refine load_S (.tmp 5) rfl rfl (p := ⟨gs, 0, none⟩) rfl (cells_box XB.out) ?_)
  | (with_reducible refine load_F (.tmp 48) rfl rfl (p := ⟨ga, 1, none⟩) rfl (boxA_F (blk_below AS.out BS.out)) ?_)
  | ((go_at_call 18; (with_reducible refine (proof_any x a.F _ HX.out HW.out).mono ?_)); rw [HP.out]; rintro e w7 ⟨vp, rfl, hV, hb⟩; obtain ⟨Ap, cp, rfl⟩ := Kd.V_slice hV; have PV := aq_ hV; have PQ := aq_ (blk_lt TB.out); replace BS := aq_ (BS.out.trans (Below.mono hb LS.out)); replace LS := aq_ (Nat.le_trans LS.out (Below.size hb)); replace XB := aq_ (blk_below XB.out hb); replace TB := aq_ (blk_below TB.out hb); clear hb hV)
  | ((with_reducible refine store_Te2 (.tmp 6) (.tmp 51) rfl rfl rfl rfl rfl rfl TB.out ?_); intro w4 hx1 hs1 hb1 hf1; have BS' := aq_ (BS.out.trans (hb1 _ (Nat.le_trans GSL.out (Nat.le_of_lt GT.out)))); have LS' := aq_ (show wS.heap.size ≤ w4.heap.size by rw [hs1]; exact LS.out); have XB' := aq_ ((hf1 gs (Nat.ne_of_lt GT.out)).trans XB.out); have PV' := aq_ (Kd.V_step PV.out (w1 := w4) (fun k hk _ => hf1 k (by have := PQ.out; omega))); clear BS LS XB TB PV; have BS := BS'; have LS := LS'; have XB := XB'; have TB := aq_ hx1; have PV := PV'; obtain ⟨⟨m0, m1, m2⟩, _⟩ := cells3 TB.out; obtain ⟨k0, k1, k2⟩ := cellsA_T (blk_below AS.out BS.out); clear BS' LS' XB' PV' hx1 hs1 hb1 hf1)
  | ((go_at_call 80; (with_reducible refine (sameT_any (proofT x a.F) a.T Ap AA cp cA _ (told_C' (told_V PV.out)).2.2 (told_C' (told_V PV.out)).2.1 (Kd.C_below TS.out BS.out) CA.out).mono ?_)); rw [HQ.out]; rintro e w8 ⟨rfl, hb⟩; clear m0 m1 m2 k0 k1 k2; replace BS := aq_ (BS.out.trans (Below.mono hb LS.out)); replace LS := aq_ (Nat.le_trans LS.out (Below.size hb)); replace XB := aq_ (blk_below XB.out hb); clear hb TB))
 go_step3
 refine ⟨rfl, ?_⟩
 go_wp2
 rw [Exit.noGoto_ret]
 go_ret
 exact ⟨_, _, by rw [HE.out]; rfl, by rw [HE.out]; exact (mbox_below MS.out BS.out).1, by rw [HE.out]; exact mbox_mdo (mbox_below MS.out BS.out), HBS.out.trans (BS.out.mono LBS.out)⟩
set_option maxHeartbeats 8000000 in
theorem proved_3a (M : Mdl) (a : Ac) (vU vT vK vD vA : Value) (w0 w : World) (base g : Nat) (rb : Nat → Prop) (hm : MBox w base g rb M vU vT vK vD) (hB : Below base w0 w) (hb : base ≤ w.heap.size) (hT : M.T.length < 1000000) (hD : M.D.length < 1000000) (hW : wfF a.F) (hS : ∀ x ∈ M.T, wfS x) (hA : Told k24 w vA a.T.f2) (i : Nat) (x : Ses) (hf : findS M.T a.F.sess = i) (hi : i < M.T.length) (hx : M.T[i]? = some x) (k4 : ¬ a.F.kind = 4) (hp : isP x a.F = true) (hq : sameT (proofT x a.F) a.T = false) :
  Calls Tryz.prog 65 #[.pointer (some ⟨g, 0, none⟩), .agg (aca a vA)] w fun e w' => ∃ vT' vD', e = .returned (.int .i64 (provedM M a).2) ∧ w'.heap[g]? = some (.cells (mca (provedM M a).1 vU vT' vK vD') 42 (0, 0)) ∧ MdO w' rb (provedM M a).1 vU vT' vK vD' ∧ Below base w0 w' := by
 have HE := aq_ (show provedM M a = (M, 7) by rw [provedM_at hf hx]; unfold foundM; rw [if_neg (fun h => k4 h.1)]; rw [if_neg (by rw [hp]; decide), if_pos hq])
 have hk : (a.F.kind == 4) = false := by simpa using k4
 have HP := aq_ hp
 have HQ := aq_ hq
 clear k4
 clear hp hq
 obtain ⟨⟨AU, cU, rfl⟩, ⟨AT, cT, rfl⟩, ⟨AK, cK, rfl⟩, ⟨AD, cD, rfl⟩⟩ := mbox_slices hm
 obtain ⟨AA, cA, rfl, hcA, hCA⟩ := hA
 have MB := aq_ hm
 have HB := aq_ hB
 have LB := aq_ hb
 have TL := aq_ hT
 have DL := aq_ hD
 have HW := aq_ hW
 have TA := aq_ hCA
 have CA := aq_ hcA
 have HX := aq_ (hS x (List.mem_of_getElem? hx))
 have HI := aq_ hx
 have HF := aq_ hf
 obtain ⟨ad, rfl⟩ := some_S (mbox_T hm).1 hi hx
 have hne : ((i : Int) == -1) = false := by simp
 clear hm hB hb hT hD hW hS hCA hcA hx hf
 go_enter Tryz.func65, Tryz.ntmps65
 go_wp2_with ((with_reducible refine box_Ac (.tmp 1) (x := a) (v := .slice AA a.T.f2.length cA) rfl rfl rfl ?_); intro ga hga wS hbox hb; have MS := aq_ (mbox_below MB.out hb); have AS := aq_ hbox; have TS := aq_ (Kd.C_below TA.out hb); have HBS := aq_ (HB.out.trans (hb.mono LB.out)); have LBS := aq_ (Nat.le_trans LB.out hb.size); have NA := aq_ (show g ≠ ga by have := blk_lt MB.out.1; omega); have BS := aq_ (Below.refl wS.heap.size wS); have LS := aq_ (Nat.le_refl wS.heap.size); have GAL := aq_ (blk_lt AS.out); have OA := aq_ (show ∀ k, (Value.slice AD M.D.length cD).ownBlock = some k → k ≠ ga from fun k hk e => mbox_ownD MB.out k hk (by omega)); have OD := aq_ (mbox_ownD MS.out); clear hga hbox hb MB HB LB TA)
 refine wp_scope_goto 0 rfl ?_
 go_upto_region 6 with (first
  | ((with_reducible refine alloc_Se rfl rfl ?_); intro gs hgs w1 hbox hb hsz; have NG := aq_ (show g ≠ gs by have := blk_lt MS.out.1; have := LS.out; omega); have GSL := aq_ (show wS.heap.size ≤ gs by have := LS.out; omega); have OS := aq_ (show ∀ k, (Value.slice AD M.D.length cD).ownBlock = some k → k ≠ gs from fun k hk e => OD.out k hk (by rw [e]; exact GSL.out)); replace BS := aq_ (BS.out.trans (Below.mono hb LS.out)); replace LS := aq_ (Nat.le_trans LS.out (Below.size hb)); have XB := aq_ hbox; clear hbox hb hsz hgs)
  | ((with_reducible refine alloc_Te rfl rfl ?_); intro gt hgt w2 hbox hb; have GT := aq_ (show gs < gt by have := blk_lt XB.out; omega); replace BS := aq_ (BS.out.trans (Below.mono hb LS.out)); replace LS := aq_ (Nat.le_trans LS.out (Below.size hb)); replace XB := aq_ (blk_below XB.out hb); have TB := aq_ hbox; have c1 := (cellsA_F (blk_below AS.out BS.out)).1; clear hbox hb hgt))
 clear c1
 replace BS := aq_ (BS.out.trans (Below.mono (below_drew (Below.refl w2.heap.size w2)) LS.out))
 replace LS := aq_ (Nat.le_trans LS.out (Below.size (below_drew (Below.refl w2.heap.size w2))))
 replace XB := aq_ (blk_drew XB.out)
 replace TB := aq_ (blk_drew TB.out)
 refine start_ (n := 9) (S := fun w' => w'.cell? ⟨g, 2, none⟩ = some (.slice (some ad) M.T.length cT) ∧ w'.cell? ⟨ga, 3, none⟩ = some (.int .u64 a.F.sess)) (ds := []) #[false, false, false, false, false, false, false, false, false] (by kernel_rfl) rfl rfl ⟨blk_cell (mbox_below MS.out BS.out).1 2, (cellsA_F (blk_below AS.out BS.out)).2.2.1⟩ (fun hHeld => ?_)
 refine pz_ 0 (some 15) (bt_ 9 1) ?_
 refine pz_ 1 (some 16) (bt_ 9 3) ?_
 refine pz_ 2 (some 17) (bt_ 9 7) ?_
 refine pz_ 4 (some 19) (bt_ 9 23) ?_
 refine pz_ 5 (some 20) (bt_ 9 55) ?_
 refine tz_ 3 (some 18) (bt_ 9 63) hHeld ?_
 refine tz_ 6 (some 21) (bt_ 9 127) hHeld ?_
 refine gz_ 7 (some 22) (bt_ 9 255) Tryz.func73 #[.slice (some ad) M.T.length cT, .int .u64 a.F.sess] fun K hK => ?_
 with_reducible refine (find_any a.F.sess M.T (some ad) cT _ (mbox_T (mbox_below MS.out BS.out)).1).mono ?_
 rintro e wq ⟨he_, hb_⟩
 rw [HF.out] at he_
 subst he_
 refine ⟨_, rfl, ?_⟩
 replace BS := aq_ (BS.out.trans (Below.mono hb_ LS.out))
 replace LS := aq_ (Nat.le_trans LS.out (Below.size hb_))
 replace XB := aq_ (blk_below XB.out hb_)
 replace TB := aq_ (blk_below TB.out hb_)
 clear hb_
 refine hK.out _ _ ⟨blk_cell (mbox_below MS.out BS.out).1 2, (cellsA_F (blk_below AS.out BS.out)).2.2.1⟩ (fun hHeld => ?_)
 clear hK K
 refine nz_ ?_
 refine pz_ 8 (some 10) (bt_ 9 511) ?_
 refine done_ (by kernel_rfl) ?_
 have c2 : wq.cell? ⟨g, 2, none⟩ = some (.slice (some ad) M.T.length cT) := blk_cell (mbox_below MS.out BS.out).1 2
 have c36 := open_S (mbox_T (mbox_below MS.out BS.out)).1 hi HI.out
 go_wp2_with (first
  | ((with_reducible refine gate_load 33 (.tmp 44) rfl ?_); refine load_Sw (.tmp 44) rfl (by rfl) (p := ad.add (i * 39)) rfl (row_S (mbox_T (mbox_below MS.out BS.out)).1 hi HI.out) ?_)
  | ((with_reducible refine store_Se2 (.tmp 5) (.tmp 45) rfl rfl rfl rfl rfl XB.out ?_); intro w3 hx1 hs1 hb1 hf1; have BS' := aq_ (BS.out.trans (hb1 _ GSL.out)); have LS' := aq_ (show wS.heap.size ≤ w3.heap.size by rw [hs1]; exact LS.out); have TB' := aq_ ((hf1 gt (Nat.ne_of_gt GT.out)).trans TB.out); clear BS LS XB TB c2; have BS := BS'; have LS := LS'; have XB := aq_ hx1; have TB := TB'; clear BS' LS' TB' hx1 hs1 hb1 hf1)
  | (with_reducible refine load_S (.tmp 5) rfl rfl (p := ⟨gs, 0, none⟩) rfl (cells_box XB.out) ?_)
  | (with_reducible refine load_F (.tmp 48) rfl rfl (p := ⟨ga, 1, none⟩) rfl (boxA_F (blk_below AS.out BS.out)) ?_)
  | ((go_at_call 18; (with_reducible refine (proof_any x a.F _ HX.out HW.out).mono ?_)); rw [HP.out]; rintro e w7 ⟨vp, rfl, hV, hb⟩; obtain ⟨Ap, cp, rfl⟩ := Kd.V_slice hV; have PV := aq_ hV; have PQ := aq_ (blk_lt TB.out); replace BS := aq_ (BS.out.trans (Below.mono hb LS.out)); replace LS := aq_ (Nat.le_trans LS.out (Below.size hb)); replace XB := aq_ (blk_below XB.out hb); replace TB := aq_ (blk_below TB.out hb); clear hb hV)
  | ((with_reducible refine store_Te2 (.tmp 6) (.tmp 51) rfl rfl rfl rfl rfl rfl TB.out ?_); intro w4 hx1 hs1 hb1 hf1; have BS' := aq_ (BS.out.trans (hb1 _ (Nat.le_trans GSL.out (Nat.le_of_lt GT.out)))); have LS' := aq_ (show wS.heap.size ≤ w4.heap.size by rw [hs1]; exact LS.out); have XB' := aq_ ((hf1 gs (Nat.ne_of_lt GT.out)).trans XB.out); have PV' := aq_ (Kd.V_step PV.out (w1 := w4) (fun k hk _ => hf1 k (by have := PQ.out; omega))); clear BS LS XB TB PV; have BS := BS'; have LS := LS'; have XB := XB'; have TB := aq_ hx1; have PV := PV'; obtain ⟨⟨m0, m1, m2⟩, _⟩ := cells3 TB.out; obtain ⟨k0, k1, k2⟩ := cellsA_T (blk_below AS.out BS.out); clear BS' LS' XB' PV' hx1 hs1 hb1 hf1)
  | ((go_at_call 80; (with_reducible refine (sameT_any (proofT x a.F) a.T Ap AA cp cA _ (told_C' (told_V PV.out)).2.2 (told_C' (told_V PV.out)).2.1 (Kd.C_below TS.out BS.out) CA.out).mono ?_)); rw [HQ.out]; rintro e w8 ⟨rfl, hb⟩; clear m0 m1 m2 k0 k1 k2; replace BS := aq_ (BS.out.trans (Below.mono hb LS.out)); replace LS := aq_ (Nat.le_trans LS.out (Below.size hb)); replace XB := aq_ (blk_below XB.out hb); clear hb TB))
 go_step3
 refine ⟨rfl, ?_⟩
 go_wp2
 rw [Exit.noGoto_ret]
 go_ret
 exact ⟨_, _, by rw [HE.out]; rfl, by rw [HE.out]; exact (mbox_below MS.out BS.out).1, by rw [HE.out]; exact mbox_mdo (mbox_below MS.out BS.out), HBS.out.trans (BS.out.mono LBS.out)⟩
set_option maxHeartbeats 8000000 in
theorem proved_3b (M : Mdl) (a : Ac) (vU vT vK vD vA : Value) (w0 w : World) (base g : Nat) (rb : Nat → Prop) (hm : MBox w base g rb M vU vT vK vD) (hB : Below base w0 w) (hb : base ≤ w.heap.size) (hT : M.T.length < 1000000) (hD : M.D.length < 1000000) (hW : wfF a.F) (hS : ∀ x ∈ M.T, wfS x) (hA : Told k24 w vA a.T.f2) (i : Nat) (x : Ses) (hf : findS M.T a.F.sess = i) (hi : i < M.T.length) (hx : M.T[i]? = some x) (k4 : a.F.kind = 4) (ho : x.isOpen = true) (hp : isP x a.F = true) (hq : sameT (proofT x a.F) a.T = false) :
  Calls Tryz.prog 65 #[.pointer (some ⟨g, 0, none⟩), .agg (aca a vA)] w fun e w' => ∃ vT' vD', e = .returned (.int .i64 (provedM M a).2) ∧ w'.heap[g]? = some (.cells (mca (provedM M a).1 vU vT' vK vD') 42 (0, 0)) ∧ MdO w' rb (provedM M a).1 vU vT' vK vD' ∧ Below base w0 w' := by
 have HE := aq_ (show provedM M a = (M, 7) by rw [provedM_at hf hx]; unfold foundM; rw [if_neg (by rw [ho]; simp)]; rw [if_neg (by rw [hp]; decide), if_pos hq])
 have hk : (a.F.kind == 4) = true := by simpa using k4
 have HO := aq_ ho
 have HP := aq_ hp
 have HQ := aq_ hq
 clear k4 ho
 clear hp hq
 obtain ⟨⟨AU, cU, rfl⟩, ⟨AT, cT, rfl⟩, ⟨AK, cK, rfl⟩, ⟨AD, cD, rfl⟩⟩ := mbox_slices hm
 obtain ⟨AA, cA, rfl, hcA, hCA⟩ := hA
 have MB := aq_ hm
 have HB := aq_ hB
 have LB := aq_ hb
 have TL := aq_ hT
 have DL := aq_ hD
 have HW := aq_ hW
 have TA := aq_ hCA
 have CA := aq_ hcA
 have HX := aq_ (hS x (List.mem_of_getElem? hx))
 have HI := aq_ hx
 have HF := aq_ hf
 obtain ⟨ad, rfl⟩ := some_S (mbox_T hm).1 hi hx
 have hne : ((i : Int) == -1) = false := by simp
 clear hm hB hb hT hD hW hS hCA hcA hx hf
 go_enter Tryz.func65, Tryz.ntmps65
 go_wp2_with ((with_reducible refine box_Ac (.tmp 1) (x := a) (v := .slice AA a.T.f2.length cA) rfl rfl rfl ?_); intro ga hga wS hbox hb; have MS := aq_ (mbox_below MB.out hb); have AS := aq_ hbox; have TS := aq_ (Kd.C_below TA.out hb); have HBS := aq_ (HB.out.trans (hb.mono LB.out)); have LBS := aq_ (Nat.le_trans LB.out hb.size); have NA := aq_ (show g ≠ ga by have := blk_lt MB.out.1; omega); have BS := aq_ (Below.refl wS.heap.size wS); have LS := aq_ (Nat.le_refl wS.heap.size); have GAL := aq_ (blk_lt AS.out); have OA := aq_ (show ∀ k, (Value.slice AD M.D.length cD).ownBlock = some k → k ≠ ga from fun k hk e => mbox_ownD MB.out k hk (by omega)); have OD := aq_ (mbox_ownD MS.out); clear hga hbox hb MB HB LB TA)
 refine wp_scope_goto 0 rfl ?_
 go_upto_region 6 with (first
  | ((with_reducible refine alloc_Se rfl rfl ?_); intro gs hgs w1 hbox hb hsz; have NG := aq_ (show g ≠ gs by have := blk_lt MS.out.1; have := LS.out; omega); have GSL := aq_ (show wS.heap.size ≤ gs by have := LS.out; omega); have OS := aq_ (show ∀ k, (Value.slice AD M.D.length cD).ownBlock = some k → k ≠ gs from fun k hk e => OD.out k hk (by rw [e]; exact GSL.out)); replace BS := aq_ (BS.out.trans (Below.mono hb LS.out)); replace LS := aq_ (Nat.le_trans LS.out (Below.size hb)); have XB := aq_ hbox; clear hbox hb hsz hgs)
  | ((with_reducible refine alloc_Te rfl rfl ?_); intro gt hgt w2 hbox hb; have GT := aq_ (show gs < gt by have := blk_lt XB.out; omega); replace BS := aq_ (BS.out.trans (Below.mono hb LS.out)); replace LS := aq_ (Nat.le_trans LS.out (Below.size hb)); replace XB := aq_ (blk_below XB.out hb); have TB := aq_ hbox; have c1 := (cellsA_F (blk_below AS.out BS.out)).1; clear hbox hb hgt))
 clear c1
 replace BS := aq_ (BS.out.trans (Below.mono (below_drew (Below.refl w2.heap.size w2)) LS.out))
 replace LS := aq_ (Nat.le_trans LS.out (Below.size (below_drew (Below.refl w2.heap.size w2))))
 replace XB := aq_ (blk_drew XB.out)
 replace TB := aq_ (blk_drew TB.out)
 refine start_ (n := 9) (S := fun w' => w'.cell? ⟨g, 2, none⟩ = some (.slice (some ad) M.T.length cT) ∧ w'.cell? ⟨ga, 3, none⟩ = some (.int .u64 a.F.sess)) (ds := []) #[false, false, false, false, false, false, false, false, false] (by kernel_rfl) rfl rfl ⟨blk_cell (mbox_below MS.out BS.out).1 2, (cellsA_F (blk_below AS.out BS.out)).2.2.1⟩ (fun hHeld => ?_)
 refine pz_ 0 (some 15) (bt_ 9 1) ?_
 refine pz_ 1 (some 16) (bt_ 9 3) ?_
 refine pz_ 2 (some 17) (bt_ 9 7) ?_
 refine pz_ 4 (some 19) (bt_ 9 23) ?_
 refine pz_ 5 (some 20) (bt_ 9 55) ?_
 refine tz_ 3 (some 18) (bt_ 9 63) hHeld ?_
 refine tz_ 6 (some 21) (bt_ 9 127) hHeld ?_
 refine gz_ 7 (some 22) (bt_ 9 255) Tryz.func73 #[.slice (some ad) M.T.length cT, .int .u64 a.F.sess] fun K hK => ?_
 with_reducible refine (find_any a.F.sess M.T (some ad) cT _ (mbox_T (mbox_below MS.out BS.out)).1).mono ?_
 rintro e wq ⟨he_, hb_⟩
 rw [HF.out] at he_
 subst he_
 refine ⟨_, rfl, ?_⟩
 replace BS := aq_ (BS.out.trans (Below.mono hb_ LS.out))
 replace LS := aq_ (Nat.le_trans LS.out (Below.size hb_))
 replace XB := aq_ (blk_below XB.out hb_)
 replace TB := aq_ (blk_below TB.out hb_)
 clear hb_
 refine hK.out _ _ ⟨blk_cell (mbox_below MS.out BS.out).1 2, (cellsA_F (blk_below AS.out BS.out)).2.2.1⟩ (fun hHeld => ?_)
 clear hK K
 refine nz_ ?_
 refine pz_ 8 (some 10) (bt_ 9 511) ?_
 refine done_ (by kernel_rfl) ?_
 have c2 : wq.cell? ⟨g, 2, none⟩ = some (.slice (some ad) M.T.length cT) := blk_cell (mbox_below MS.out BS.out).1 2
 have c36 := open_S (mbox_T (mbox_below MS.out BS.out)).1 hi HI.out
 rw [HO.out] at c36
 go_wp2_with (first
  | ((with_reducible refine gate_load 33 (.tmp 44) rfl ?_); refine load_Sw (.tmp 44) rfl (by rfl) (p := ad.add (i * 39)) rfl (row_S (mbox_T (mbox_below MS.out BS.out)).1 hi HI.out) ?_)
  | ((with_reducible refine store_Se2 (.tmp 5) (.tmp 45) rfl rfl rfl rfl rfl XB.out ?_); intro w3 hx1 hs1 hb1 hf1; have BS' := aq_ (BS.out.trans (hb1 _ GSL.out)); have LS' := aq_ (show wS.heap.size ≤ w3.heap.size by rw [hs1]; exact LS.out); have TB' := aq_ ((hf1 gt (Nat.ne_of_gt GT.out)).trans TB.out); clear BS LS XB TB c2; have BS := BS'; have LS := LS'; have XB := aq_ hx1; have TB := TB'; clear BS' LS' TB' hx1 hs1 hb1 hf1)
  | (with_reducible refine load_S (.tmp 5) rfl rfl (p := ⟨gs, 0, none⟩) rfl (cells_box XB.out) ?_)
  | (with_reducible refine load_F (.tmp 48) rfl rfl (p := ⟨ga, 1, none⟩) rfl (boxA_F (blk_below AS.out BS.out)) ?_)
  | ((go_at_call 18; (with_reducible refine (proof_any x a.F _ HX.out HW.out).mono ?_)); rw [HP.out]; rintro e w7 ⟨vp, rfl, hV, hb⟩; obtain ⟨Ap, cp, rfl⟩ := Kd.V_slice hV; have PV := aq_ hV; have PQ := aq_ (blk_lt TB.out); replace BS := aq_ (BS.out.trans (Below.mono hb LS.out)); replace LS := aq_ (Nat.le_trans LS.out (Below.size hb)); replace XB := aq_ (blk_below XB.out hb); replace TB := aq_ (blk_below TB.out hb); clear hb hV)
  | ((with_reducible refine store_Te2 (.tmp 6) (.tmp 51) rfl rfl rfl rfl rfl rfl TB.out ?_); intro w4 hx1 hs1 hb1 hf1; have BS' := aq_ (BS.out.trans (hb1 _ (Nat.le_trans GSL.out (Nat.le_of_lt GT.out)))); have LS' := aq_ (show wS.heap.size ≤ w4.heap.size by rw [hs1]; exact LS.out); have XB' := aq_ ((hf1 gs (Nat.ne_of_lt GT.out)).trans XB.out); have PV' := aq_ (Kd.V_step PV.out (w1 := w4) (fun k hk _ => hf1 k (by have := PQ.out; omega))); clear BS LS XB TB PV; have BS := BS'; have LS := LS'; have XB := XB'; have TB := aq_ hx1; have PV := PV'; obtain ⟨⟨m0, m1, m2⟩, _⟩ := cells3 TB.out; obtain ⟨k0, k1, k2⟩ := cellsA_T (blk_below AS.out BS.out); clear BS' LS' XB' PV' hx1 hs1 hb1 hf1)
  | ((go_at_call 80; (with_reducible refine (sameT_any (proofT x a.F) a.T Ap AA cp cA _ (told_C' (told_V PV.out)).2.2 (told_C' (told_V PV.out)).2.1 (Kd.C_below TS.out BS.out) CA.out).mono ?_)); rw [HQ.out]; rintro e w8 ⟨rfl, hb⟩; clear m0 m1 m2 k0 k1 k2; replace BS := aq_ (BS.out.trans (Below.mono hb LS.out)); replace LS := aq_ (Nat.le_trans LS.out (Below.size hb)); replace XB := aq_ (blk_below XB.out hb); clear hb TB))
 go_step3
 refine ⟨rfl, ?_⟩
 go_wp2
 rw [Exit.noGoto_ret]
 go_ret
 exact ⟨_, _, by rw [HE.out]; rfl, by rw [HE.out]; exact (mbox_below MS.out BS.out).1, by rw [HE.out]; exact mbox_mdo (mbox_below MS.out BS.out), HBS.out.trans (BS.out.mono LBS.out)⟩
set_option maxHeartbeats 8000000 in
theorem proved_4 (M : Mdl) (a : Ac) (vU vT vK vD vA : Value) (w0 w : World) (base g : Nat) (rb : Nat → Prop) (hm : MBox w base g rb M vU vT vK vD) (hB : Below base w0 w) (hb : base ≤ w.heap.size) (hT : M.T.length < 1000000) (hD : M.D.length < 1000000) (hW : wfF a.F) (hS : ∀ x ∈ M.T, wfS x) (hA : Told k24 w vA a.T.f2) (i : Nat) (x : Ses) (hf : findS M.T a.F.sess = i) (hi : i < M.T.length) (hx : M.T[i]? = some x) (k4 : ¬ a.F.kind = 4) (hp : isP x a.F = true) (hq : sameT (proofT x a.F) a.T = true) :
  Calls Tryz.prog 65 #[.pointer (some ⟨g, 0, none⟩), .agg (aca a vA)] w fun e w' => ∃ vT' vD', e = .returned (.int .i64 (provedM M a).2) ∧ w'.heap[g]? = some (.cells (mca (provedM M a).1 vU vT' vK vD') 42 (0, 0)) ∧ MdO w' rb (provedM M a).1 vU vT' vK vD' ∧ Below base w0 w' := by
 have HE := aq_ (show provedM M a = ({ M with T := (proveS M.T x.draw M.idle M.now).1 }, (proveS M.T x.draw M.idle M.now).2) by rw [provedM_at hf hx]; unfold foundM; rw [if_neg (fun h => k4 h.1)]; rw [if_neg (by rw [hp]; decide), if_neg (by rw [hq]; decide), if_pos k4])
 have hk : (a.F.kind == 4) = false := by simpa using k4
 have HP := aq_ hp
 have HQ := aq_ hq
 clear k4
 clear hp hq
 obtain ⟨r1, r2, hr⟩ : ∃ r1 r2, proveS M.T x.draw M.idle M.now = (r1, r2) := ⟨_, _, rfl⟩
 rw [hr] at HE
 have TH := aq_ hr
 clear hr
 obtain ⟨⟨AU, cU, rfl⟩, ⟨AT, cT, rfl⟩, ⟨AK, cK, rfl⟩, ⟨AD, cD, rfl⟩⟩ := mbox_slices hm
 obtain ⟨AA, cA, rfl, hcA, hCA⟩ := hA
 have MB := aq_ hm
 have HB := aq_ hB
 have LB := aq_ hb
 have TL := aq_ hT
 have DL := aq_ hD
 have HW := aq_ hW
 have TA := aq_ hCA
 have CA := aq_ hcA
 have HX := aq_ (hS x (List.mem_of_getElem? hx))
 have HI := aq_ hx
 have HF := aq_ hf
 obtain ⟨ad, rfl⟩ := some_S (mbox_T hm).1 hi hx
 have hne : ((i : Int) == -1) = false := by simp
 clear hm hB hb hT hD hW hS hCA hcA hx hf
 go_enter Tryz.func65, Tryz.ntmps65
 go_wp2_with ((with_reducible refine box_Ac (.tmp 1) (x := a) (v := .slice AA a.T.f2.length cA) rfl rfl rfl ?_); intro ga hga wS hbox hb; have MS := aq_ (mbox_below MB.out hb); have AS := aq_ hbox; have TS := aq_ (Kd.C_below TA.out hb); have HBS := aq_ (HB.out.trans (hb.mono LB.out)); have LBS := aq_ (Nat.le_trans LB.out hb.size); have NA := aq_ (show g ≠ ga by have := blk_lt MB.out.1; omega); have BS := aq_ (Below.refl wS.heap.size wS); have LS := aq_ (Nat.le_refl wS.heap.size); have GAL := aq_ (blk_lt AS.out); have OA := aq_ (show ∀ k, (Value.slice AD M.D.length cD).ownBlock = some k → k ≠ ga from fun k hk e => mbox_ownD MB.out k hk (by omega)); have OD := aq_ (mbox_ownD MS.out); clear hga hbox hb MB HB LB TA)
 refine wp_scope_straight ?_
 go_upto_region 6 with (first
  | ((with_reducible refine alloc_Se rfl rfl ?_); intro gs hgs w1 hbox hb hsz; have NG := aq_ (show g ≠ gs by have := blk_lt MS.out.1; have := LS.out; omega); have GSL := aq_ (show wS.heap.size ≤ gs by have := LS.out; omega); have OS := aq_ (show ∀ k, (Value.slice AD M.D.length cD).ownBlock = some k → k ≠ gs from fun k hk e => OD.out k hk (by rw [e]; exact GSL.out)); replace BS := aq_ (BS.out.trans (Below.mono hb LS.out)); replace LS := aq_ (Nat.le_trans LS.out (Below.size hb)); have XB := aq_ hbox; clear hbox hb hsz hgs)
  | ((with_reducible refine alloc_Te rfl rfl ?_); intro gt hgt w2 hbox hb; have GT := aq_ (show gs < gt by have := blk_lt XB.out; omega); replace BS := aq_ (BS.out.trans (Below.mono hb LS.out)); replace LS := aq_ (Nat.le_trans LS.out (Below.size hb)); replace XB := aq_ (blk_below XB.out hb); have TB := aq_ hbox; have c1 := (cellsA_F (blk_below AS.out BS.out)).1; clear hbox hb hgt))
 clear c1
 replace BS := aq_ (BS.out.trans (Below.mono (below_drew (Below.refl w2.heap.size w2)) LS.out))
 replace LS := aq_ (Nat.le_trans LS.out (Below.size (below_drew (Below.refl w2.heap.size w2))))
 replace XB := aq_ (blk_drew XB.out)
 replace TB := aq_ (blk_drew TB.out)
 refine start_ (n := 9) (S := fun w' => w'.cell? ⟨g, 2, none⟩ = some (.slice (some ad) M.T.length cT) ∧ w'.cell? ⟨ga, 3, none⟩ = some (.int .u64 a.F.sess)) (ds := []) #[false, false, false, false, false, false, false, false, false] (by kernel_rfl) rfl rfl ⟨blk_cell (mbox_below MS.out BS.out).1 2, (cellsA_F (blk_below AS.out BS.out)).2.2.1⟩ (fun hHeld => ?_)
 refine pz_ 0 (some 15) (bt_ 9 1) ?_
 refine pz_ 1 (some 16) (bt_ 9 3) ?_
 refine pz_ 2 (some 17) (bt_ 9 7) ?_
 refine pz_ 4 (some 19) (bt_ 9 23) ?_
 refine pz_ 5 (some 20) (bt_ 9 55) ?_
 refine tz_ 3 (some 18) (bt_ 9 63) hHeld ?_
 refine tz_ 6 (some 21) (bt_ 9 127) hHeld ?_
 refine gz_ 7 (some 22) (bt_ 9 255) Tryz.func73 #[.slice (some ad) M.T.length cT, .int .u64 a.F.sess] fun K hK => ?_
 with_reducible refine (find_any a.F.sess M.T (some ad) cT _ (mbox_T (mbox_below MS.out BS.out)).1).mono ?_
 rintro e wq ⟨he_, hb_⟩
 rw [HF.out] at he_
 subst he_
 refine ⟨_, rfl, ?_⟩
 replace BS := aq_ (BS.out.trans (Below.mono hb_ LS.out))
 replace LS := aq_ (Nat.le_trans LS.out (Below.size hb_))
 replace XB := aq_ (blk_below XB.out hb_)
 replace TB := aq_ (blk_below TB.out hb_)
 clear hb_
 refine hK.out _ _ ⟨blk_cell (mbox_below MS.out BS.out).1 2, (cellsA_F (blk_below AS.out BS.out)).2.2.1⟩ (fun hHeld => ?_)
 clear hK K
 refine nz_ ?_
 refine pz_ 8 (some 10) (bt_ 9 511) ?_
 refine done_ (by kernel_rfl) ?_
 have c2 : wq.cell? ⟨g, 2, none⟩ = some (.slice (some ad) M.T.length cT) := blk_cell (mbox_below MS.out BS.out).1 2
 have c36 := open_S (mbox_T (mbox_below MS.out BS.out)).1 hi HI.out
 go_upto_region 13 with (first
  | ((with_reducible refine gate_load 33 (.tmp 44) rfl ?_); refine load_Sw (.tmp 44) rfl (by rfl) (p := ad.add (i * 39)) rfl (row_S (mbox_T (mbox_below MS.out BS.out)).1 hi HI.out) ?_)
  | ((with_reducible refine store_Se2 (.tmp 5) (.tmp 45) rfl rfl rfl rfl rfl XB.out ?_); intro w3 hx1 hs1 hb1 hf1; have BS' := aq_ (BS.out.trans (hb1 _ GSL.out)); have LS' := aq_ (show wS.heap.size ≤ w3.heap.size by rw [hs1]; exact LS.out); have TB' := aq_ ((hf1 gt (Nat.ne_of_gt GT.out)).trans TB.out); clear BS LS XB TB c2; have BS := BS'; have LS := LS'; have XB := aq_ hx1; have TB := TB'; clear BS' LS' TB' hx1 hs1 hb1 hf1)
  | (with_reducible refine load_S (.tmp 5) rfl rfl (p := ⟨gs, 0, none⟩) rfl (cells_box XB.out) ?_)
  | (with_reducible refine load_F (.tmp 48) rfl rfl (p := ⟨ga, 1, none⟩) rfl (boxA_F (blk_below AS.out BS.out)) ?_)
  | ((go_at_call 18; (with_reducible refine (proof_any x a.F _ HX.out HW.out).mono ?_)); rw [HP.out]; rintro e w7 ⟨vp, rfl, hV, hb⟩; obtain ⟨Ap, cp, rfl⟩ := Kd.V_slice hV; have PV := aq_ hV; have PQ := aq_ (blk_lt TB.out); replace BS := aq_ (BS.out.trans (Below.mono hb LS.out)); replace LS := aq_ (Nat.le_trans LS.out (Below.size hb)); replace XB := aq_ (blk_below XB.out hb); replace TB := aq_ (blk_below TB.out hb); clear hb hV)
  | ((with_reducible refine store_Te2 (.tmp 6) (.tmp 51) rfl rfl rfl rfl rfl rfl TB.out ?_); intro w4 hx1 hs1 hb1 hf1; have BS' := aq_ (BS.out.trans (hb1 _ (Nat.le_trans GSL.out (Nat.le_of_lt GT.out)))); have LS' := aq_ (show wS.heap.size ≤ w4.heap.size by rw [hs1]; exact LS.out); have XB' := aq_ ((hf1 gs (Nat.ne_of_lt GT.out)).trans XB.out); have PV' := aq_ (Kd.V_step PV.out (w1 := w4) (fun k hk _ => hf1 k (by have := PQ.out; omega))); clear BS LS XB TB PV; have BS := BS'; have LS := LS'; have XB := XB'; have TB := aq_ hx1; have PV := PV'; obtain ⟨⟨m0, m1, m2⟩, _⟩ := cells3 TB.out; obtain ⟨k0, k1, k2⟩ := cellsA_T (blk_below AS.out BS.out); clear BS' LS' XB' PV' hx1 hs1 hb1 hf1)
  | ((go_at_call 80; (with_reducible refine (sameT_any (proofT x a.F) a.T Ap AA cp cA _ (told_C' (told_V PV.out)).2.2 (told_C' (told_V PV.out)).2.1 (Kd.C_below TS.out BS.out) CA.out).mono ?_)); rw [HQ.out]; rintro e w8 ⟨rfl, hb⟩; clear m0 m1 m2 k0 k1 k2; replace BS := aq_ (BS.out.trans (Below.mono hb LS.out)); replace LS := aq_ (Nat.le_trans LS.out (Below.size hb)); replace XB := aq_ (blk_below XB.out hb); clear hb TB))
 have MB := aq_ (mbox_below MS.out BS.out)
 have AB := aq_ (blk_below AS.out BS.out)
 have HB := aq_ (HBS.out.trans (BS.out.mono LBS.out))
 have LB := aq_ (Nat.le_trans LBS.out LS.out)
 have GB := aq_ MB.out.2.1
 clear MS AS TS BS LS HBS LBS PV
 replace MB := aq_ (mbox_below MB.out (below_drew (Below.refl _ w8)))
 replace AB := aq_ (blk_drew AB.out)
 replace XB := aq_ (blk_drew XB.out)
 replace HB := aq_ (below_drew HB.out)
 replace LB := aq_ (show base ≤ w8.drew.heap.size from LB.out)
 have GL := aq_ (mbox_lt MB.out)
 have GK := aq_ (mbox_own MB.out)
 have GD := aq_ (mbox_ownD MB.out)
 refine start_ (n := 23) (S := fun w' => w'.cell? ⟨g, 2, none⟩ = some (.slice (some ad) M.T.length cT) ∧ w'.cell? ⟨gs, 2, none⟩ = some (.int .u64 x.draw) ∧ w'.cell? ⟨g, 1, none⟩ = some (.int .i64 M.idle) ∧ w'.cell? ⟨g, 4, none⟩ = some (.int .i64 M.now)) (ds := [21]) #[false, false, false, false, false, false, false, false, false, false, false, false, false, false, false, false, false, false, false, false, false, false, false] (by kernel_rfl) rfl rfl ⟨blk_cell MB.out.1 2, (cellsS XB.out).2.2.1, blk_cell MB.out.1 1, blk_cell MB.out.1 4⟩ (fun hHeld => ?_)
 refine pz_ 0 (some 65) (bt_ 23 1) ?_
 refine pz_ 1 (some 66) (bt_ 23 3) ?_
 refine pz_ 2 (some 67) (bt_ 23 7) ?_
 refine pz_ 3 (some 68) (bt_ 23 15) ?_
 refine pz_ 5 (some 70) (bt_ 23 47) ?_
 refine pz_ 7 (some 72) (bt_ 23 175) ?_
 refine pz_ 8 (some 73) (bt_ 23 431) ?_
 refine pz_ 9 (some 74) (bt_ 23 943) ?_
 refine pz_ 11 (some 76) (bt_ 23 2991) ?_
 refine pz_ 12 (some 77) (bt_ 23 7087) ?_
 refine pz_ 13 (some 78) (bt_ 23 15279) ?_
 refine tz_ 4 (some 69) (bt_ 23 15295) hHeld ?_
 refine tz_ 6 (some 71) (bt_ 23 15359) hHeld ?_
 refine tz_ 10 (some 75) (bt_ 23 16383) hHeld ?_
 refine tz_ 14 (some 79) (bt_ 23 32767) hHeld ?_
 refine gz_ 15 (some 80) (bt_ 23 65535) Tryz.func86 #[.slice (some ad) M.T.length cT, .int .u64 x.draw, .int .i64 M.idle, .int .i64 M.now] fun K hK => ?_
 with_reducible refine (prove_any x.draw M.idle M.now M.T (some ad) cT _ (mbox_T MB.out).1 (mbox_T MB.out).2 TL.out _ _ TH.out).mono ?_
 rintro e wr ⟨vT', rfl, hO_, hb_⟩
 refine ⟨_, rfl, ?_⟩
 obtain ⟨AT1, cT1, rfl⟩ := told_slice hO_
 replace MB := aq_ (mbox_below MB.out hb_)
 replace AB := aq_ (blk_below AB.out hb_)
 replace XB := aq_ (blk_below XB.out hb_)
 replace HB := aq_ (HB.out.trans (Below.mono hb_ LB.out))
 replace LB := aq_ (Nat.le_trans LB.out (Below.size hb_))
 have z2 : wr.frozen? ⟨g, 2, none⟩ = false := blk_frozen MB.out.1 2
 have HO2 := aq_ (told_base hO_ GL.out GK.out GD.out)
 clear hb_ hO_
 refine hK.out _ _ ⟨blk_cell MB.out.1 2, (cellsS XB.out).2.2.1, blk_cell MB.out.1 1, blk_cell MB.out.1 4⟩ (fun hHeld => ?_)
 clear hK K
 refine nz_ ?_
 refine pz_ 16 (some 64) (bt_ 23 131071) ?_
 refine pz_ 17 (some 81) (bt_ 23 262143) ?_
 refine pz_ 18 (some 82) (bt_ 23 524287) ?_
 refine pz_ 19 (some 83) (bt_ 23 1048575) ?_
 refine pz_ 20 (some 84) (bt_ 23 2097151) ?_
 refine last_ (i := 21) (N := none) (bt_ 23 4194303) rfl rfl (by kernel_rfl) (by decide) (fun K hK => ?_)
 refine skip_ (w1 := ?_) (by rfl) rfl ?_ ?_
 rotate_left
 ·go_simp
  rfl
 refine hK.out _ _ ?_
 clear hK K
 refine pz_ 22 (some 9) (bt_ 23 8388607) ?_
 refine done_ (by kernel_rfl) ?_
 go_wp2
 (try rw [Exit.noGoto_ret])
 go_ret
 obtain ⟨P, hV, hP⟩ := HO2.out
 have hF := mbox_setT MB.out hV hP
 exact ⟨_, _, by rw [HE.out]; rfl, by rw [HE.out]; exact hF.1, by rw [HE.out]; exact mbox_mdo hF, HB.out.setCell (p := ⟨g, 2, none⟩) GB.out _⟩
end Go.Proofs.YtdinphnljokigaaGreat.P
end
