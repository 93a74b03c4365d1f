/- What LawSymAgree rests on, part 24: several texts put together. -/
import Derived.Test.YtdinphnljokigaaGreatS23
import Derived.Test.YtdinphnljokigaaGreatS3
set_option linter.unusedVariables false
set_option linter.unnecessarySimpa false
set_option linter.unusedSimpArgs false
set_option maxRecDepth 100000
section
namespace Go.Proofs.YtdinphnljokigaaGreat.P
open Go.RowKit Go.Lib Go.Proofs.YtdinphnljokigaaGreatW.PrintWords Go.Proofs.YtdinphnljokigaaGreatW.PrintLast Go.Proofs.YtdinphnljokigaaGreatW.PrintMore
set_option maxHeartbeats 4000000 in
theorem sown_any (M : Mdl) (vU vT vK vD : Value) (w : World) (rb : Nat → Prop) (hrb : ∀ k, rb k → k < w.heap.size) (hm : MdO w rb M vU vT vK vD) (hs : smallM M) :
  Calls Tryz.prog 25 #[.agg (mca M vU vT vK vD)] w fun e w' => ∃ vU' vT' vK' vD', e = .returned (.agg (mca M vU' vT' vK' vD')) ∧ OwnM w' w.heap.size rb M vU' vT' vK' vD' ∧ Below w.heap.size w w' := by
 have SMU := aq_ hs.1.1
 have SMT := aq_ hs.1.2.1
 have SMK := aq_ (show api_Term_30.f M.K = some M.K from if_pos (Nat.lt_trans hs.1.2.2.1 (by decide)))
 have SMD := aq_ hs.1.2.2.2
 have SKY := aq_ hs.2.1
 have STM := aq_ hs.2.2
 have HRB := aq_ hrb
 have VU := aq_ (Kd.V_mono (V_base (b' := w.heap.size) (Kd.V_bound hm.1)) (fun k (hk : ¬ rb k ∧ k < w.heap.size) => (And.intro hk.2 hk.1 : k < w.heap.size ∧ ¬ rb k)))
 have VK := aq_ (Kd.V_mono (V_base (b' := w.heap.size) (Kd.V_bound hm.2.2.1)) (fun k (hk : ¬ rb k ∧ k < w.heap.size) => (And.intro hk.2 hk.1 : k < w.heap.size ∧ ¬ rb k)))
 obtain ⟨hU, hT, hK, hD⟩ := mdO_told hm
 clear hm hrb
 obtain ⟨AU, cU, rfl, _, _⟩ := hU
 obtain ⟨AT, cT, rfl, _, hCT⟩ := hT
 obtain ⟨AK, cK, rfl, _, _⟩ := hK
 obtain ⟨AD, cD, rfl, _, hCD⟩ := hD
 have CT := aq_ hCT
 have CD := aq_ hCD
 clear hs hCT hCD
 unfold mca
 go_enter Tryz.func25, Tryz.ntmps25
 go_upto_region 1 with (fail)
 obtain ⟨W, hW⟩ : ∃ W, W = (w.alloc (.cells #[.slice AU M.U.length cU, .int .i64 M.idle, .slice AT M.T.length cT, .int .i64 M.epoch, .int .i64 M.now, .slice AK M.K.length cK, .slice AD M.D.length cD] 42)).alloc (.cells #[.slice none 0 0, .int .i64 0, .slice none 0 0, .int .i64 0, .int .i64 0, .slice none 0 0, .slice none 0 0] 42) := ⟨_, rfl⟩
 rw [← hW]
 have XB := aq_ (show W.drew.heap[w.heap.size]? = some (.cells #[.slice AU M.U.length cU, .int .i64 M.idle, .slice AT M.T.length cT, .int .i64 M.epoch, .int .i64 M.now, .slice AK M.K.length cK, .slice AD M.D.length cD] 42 (0, 0)) by rw [hW]; exact blk_drew (two_new w _ _).1)
 have XR := aq_ (show W.drew.heap[w.heap.size + 1]? = some (.cells #[.slice none 0 0, .int .i64 0, .slice none 0 0, .int .i64 0, .int .i64 0, .slice none 0 0, .slice none 0 0] 42 (0, 0)) by rw [hW]; exact blk_drew (two_new w _ _).2)
 have HB := aq_ (show Below w.heap.size w W.drew by rw [hW]; exact below_drew (below_alloc (below_alloc (Below.refl _ _) _) _))
 have HZ := aq_ (show W.drew.heap.size = w.heap.size + 2 by rw [hW]; show (World.alloc _ _).heap.size = _; rw [size_al, size_al])
 clear hW
 refine start_ (n := 20) (S := fun w' => w'.cell? ⟨w.heap.size, 0, none⟩ = some (.slice AU M.U.length cU) ∧ w'.cell? ⟨w.heap.size, 2, none⟩ = some (.slice AT M.T.length cT) ∧ w'.cell? ⟨w.heap.size, 5, none⟩ = some (.slice AK M.K.length cK) ∧ w'.cell? ⟨w.heap.size, 6, none⟩ = some (.slice AD M.D.length cD)) (ds := [13, 15, 17, 19]) #[false, false, false, false, false, false, false, false, false, false, false, false, false, false, false, false, false, false, false, false] (by kernel_rfl) rfl rfl ⟨blk_cell XB.out 0, blk_cell XB.out 2, blk_cell XB.out 5, blk_cell XB.out 6⟩ (fun hHeld => ?_)
 refine pz_ 0 (some 7) (bt_ 20 1) ?_
 refine pz_ 3 (some 10) (bt_ 20 9) ?_
 refine pz_ 6 (some 13) (bt_ 20 73) ?_
 refine pz_ 9 (some 16) (bt_ 20 585) ?_
 refine tz_ 1 (some 8) (bt_ 20 587) hHeld ?_
 refine tz_ 4 (some 11) (bt_ 20 603) hHeld ?_
 refine tz_ 7 (some 14) (bt_ 20 731) hHeld ?_
 refine tz_ 10 (some 17) (bt_ 20 1755) hHeld ?_
 refine gz_ 2 (some 9) (bt_ 20 1759) Tryz.func51 #[.slice AU M.U.length cU] fun K hK => ?_
 with_reducible refine (usr_clone (fun k => k < w.heap.size ∧ ¬ rb k) AU cU M.U _ (V_base (Kd.V_below VU.out HB.out)) SMU.out).mono ?_
 rintro e wU ⟨vU, rfl, hN, hb_⟩
 refine ⟨_, rfl, ?_⟩
 obtain ⟨BU, dU, rfl⟩ := Kd.N_slice hN
 have NU := aq_ (Kd.N_bound hN)
 have Z1 := aq_ hb_.size
 have XB := aq_ (blk_below XB.out hb_)
 have XR := aq_ (blk_below XR.out hb_)
 have HB := aq_ (below_step HB.out hb_)
 clear hN hb_
 refine hK.out _ _ ⟨blk_cell XB.out 0, blk_cell XB.out 2, blk_cell XB.out 5, blk_cell XB.out 6⟩ (fun hHeld => ?_)
 clear hK K
 refine nz_ ?_
 refine pz_ 12 (some 19) (bt_ 20 5855) ?_
 refine gz_ 5 (some 12) (bt_ 20 5887) Tryz.func52 #[.slice AT M.T.length cT] fun K hK => ?_
 with_reducible refine (clone_any M.T AT cT _ (Kd.C_below CT.out HB.out) SMT.out).mono ?_
 rintro e wT ⟨vT, rfl, hR, hb_⟩
 refine ⟨_, rfl, ?_⟩
 obtain ⟨BT, dT, rfl⟩ := Kd.R_slice hR
 have RT := aq_ (Kd.R_bound hR)
 have NU := aq_ (Kd.N_below NU.out hb_)
 have Z2 := aq_ hb_.size
 have XB := aq_ (blk_below XB.out hb_)
 have XR := aq_ (blk_below XR.out hb_)
 have HB := aq_ (below_step HB.out hb_)
 clear hR hb_
 refine hK.out _ _ ⟨blk_cell XB.out 0, blk_cell XB.out 2, blk_cell XB.out 5, blk_cell XB.out 6⟩ (fun hHeld => ?_)
 clear hK K
 refine nz_ ?_
 refine gz_ 8 (some 15) (bt_ 20 6143) Tryz.func53 #[.slice AK M.K.length cK] fun K hK => ?_
 with_reducible refine (api_Term_30.calls (fun k => k < w.heap.size ∧ ¬ rb k) AK cK M.K M.K _ (V_base (Kd.V_below VK.out HB.out)) SMK.out).mono ?_
 rintro e wK ⟨vK, rfl, hN, hb_⟩
 refine ⟨_, rfl, ?_⟩
 obtain ⟨BK, dK, rfl⟩ := Kd.N_slice hN
 have NK := aq_ (Kd.N_bound hN)
 have NU := aq_ (Kd.N_below NU.out hb_)
 have RT := aq_ (Kd.R_below RT.out hb_)
 have Z3 := aq_ hb_.size
 have XB := aq_ (blk_below XB.out hb_)
 have XR := aq_ (blk_below XR.out hb_)
 have HB := aq_ (below_step HB.out hb_)
 clear hN hb_
 refine hK.out _ _ ⟨blk_cell XB.out 0, blk_cell XB.out 2, blk_cell XB.out 5, blk_cell XB.out 6⟩ (fun hHeld => ?_)
 clear hK K
 refine nz_ ?_
 refine gz_ 11 (some 18) (bt_ 20 8191) Tryz.func54 #[.slice AD M.D.length cD] fun K hK => ?_
 with_reducible refine (done_clone M.D AD cD _ (Kd.C_below CD.out HB.out) SMD.out).mono ?_
 rintro e wD ⟨vD, rfl, hR, hb_⟩
 refine ⟨_, rfl, ?_⟩
 obtain ⟨BD, dD, rfl⟩ := Kd.R_slice hR
 have RD := aq_ (Kd.R_bound hR)
 have NU := aq_ (Kd.N_below NU.out hb_)
 have RT := aq_ (Kd.R_below RT.out hb_)
 have NK := aq_ (Kd.N_below NK.out hb_)
 have Z4 := aq_ hb_.size
 have XB := aq_ (blk_below XB.out hb_)
 have XR := aq_ (blk_below XR.out hb_)
 have HB := aq_ (below_step HB.out hb_)
 have XBD := XB
 clear hR hb_
 refine hK.out _ _ ⟨blk_cell XB.out 0, blk_cell XB.out 2, blk_cell XB.out 5, blk_cell XB.out 6⟩ (fun hHeld => ?_)
 clear hK K
 refine nz_ ?_
 refine last_ (i := 13) (N := none) (bt_ 20 16383) rfl rfl (by kernel_rfl) (by decide) (fun K hK => ?_)
 obtain ⟨⟨y0, y1, y2, y3, y4, y5, y6⟩, z0, z1, z2, z3, z4, z5, z6⟩ := cells7 XB.out
 refine skip_ (w1 := ?_) (by rfl) rfl ?_ ?_
 rotate_left
 ·go_simp
  rfl
 have XB := aq_ (blk_put XB.out 0 (.slice BU M.U.length dU) rfl)
 clear y0 y1 y2 y3 y4 y5 y6 z0 z1 z2 z3 z4 z5 z6
 refine hK.out _ _ ?_
 clear hK K
 refine pz_ 14 (some 20) (bt_ 20 32767) ?_
 refine last_ (i := 15) (N := none) (bt_ 20 65535) rfl rfl (by kernel_rfl) (by decide) (fun K hK => ?_)
 obtain ⟨⟨y0, y1, y2, y3, y4, y5, y6⟩, z0, z1, z2, z3, z4, z5, z6⟩ := cells7 XB.out
 refine skip_ (w1 := ?_) (by rfl) rfl ?_ ?_
 rotate_left
 ·go_simp
  rfl
 have XB := aq_ (blk_put XB.out 2 (.slice BT M.T.length dT) rfl)
 clear y0 y1 y2 y3 y4 y5 y6 z0 z1 z2 z3 z4 z5 z6
 refine hK.out _ _ ?_
 clear hK K
 refine pz_ 16 (some 21) (bt_ 20 131071) ?_
 refine last_ (i := 17) (N := none) (bt_ 20 262143) rfl rfl (by kernel_rfl) (by decide) (fun K hK => ?_)
 obtain ⟨⟨y0, y1, y2, y3, y4, y5, y6⟩, z0, z1, z2, z3, z4, z5, z6⟩ := cells7 XB.out
 refine skip_ (w1 := ?_) (by rfl) rfl ?_ ?_
 rotate_left
 ·go_simp
  rfl
 have XB := aq_ (blk_put XB.out 5 (.slice BK M.K.length dK) rfl)
 clear y0 y1 y2 y3 y4 y5 y6 z0 z1 z2 z3 z4 z5 z6
 refine hK.out _ _ ?_
 clear hK K
 refine pz_ 18 (some 22) (bt_ 20 524287) ?_
 refine last_ (i := 19) (N := none) (bt_ 20 1048575) rfl rfl (by kernel_rfl) (by decide) (fun K hK => ?_)
 obtain ⟨⟨y0, y1, y2, y3, y4, y5, y6⟩, z0, z1, z2, z3, z4, z5, z6⟩ := cells7 XB.out
 refine skip_ (w1 := ?_) (by rfl) rfl ?_ ?_
 rotate_left
 ·go_simp
  rfl
 have XB := aq_ (blk_put XB.out 6 (.slice BD M.D.length dD) rfl)
 clear y0 y1 y2 y3 y4 y5 y6 z0 z1 z2 z3 z4 z5 z6
 refine hK.out _ _ ?_
 clear hK K
 refine done_ (by kernel_rfl) ?_
 have OI := aq_ (ownI_0 HZ.out Z1.out Z2.out Z3.out Z4.out NU.out RT.out (fun k hk => ⟨hk.2.1, hk.2.2.1⟩) NK.out RD.out (fun k hk => ⟨hk.2.1, hk.2.2.1⟩) XBD.out XR.out HB.out)
 have AP := aq_ (apart_0 (w := w) HRB.out HZ.out Z1.out Z2.out Z3.out Z4.out (PT := fun k => True ∧ wU.heap.size ≤ k ∧ k < wT.heap.size ∧ ∃ q, q ∈ 33 :: kS.E ∧ ∃ cells, wT.heap[k]? = some (Obj.cells cells q)) (PD := fun k => True ∧ wK.heap.size ≤ k ∧ k < wD.heap.size ∧ ∃ q, q ∈ 48 :: kD.E ∧ ∃ cells, wD.heap[k]? = some (Obj.cells cells q)) (fun k hk => ⟨hk.2.1, hk.2.2.1⟩) (fun k hk => ⟨hk.2.1, hk.2.2.1⟩))
 obtain ⟨wa, hwa⟩ : ∃ wa, wa = ((((wD.setCell ⟨w.heap.size, 0, none⟩ (.slice BU M.U.length dU)).setCell ⟨w.heap.size, 2, none⟩ (.slice BT M.T.length dT)).setCell ⟨w.heap.size, 5, none⟩ (.slice BK M.K.length dK)).setCell ⟨w.heap.size, 6, none⟩ (.slice BD M.D.length dD)) := ⟨_, rfl⟩
 rw [← hwa] at OI ⊢
 have FR := aq_ (show ∀ k, wa.heap.size ≤ k → (fun k => (k < w.heap.size ∧ ¬ rb k) ∨ (W.drew.heap.size ≤ k ∧ k < wU.heap.size) ∨ wD.heap.size ≤ k) k from fun k hk => by
  rw [hwa, size_set, size_set, size_set, size_set] at hk
  exact .inr (.inr hk))
 clear hwa
 obtain ⟨PU, hPU⟩ : ∃ P : Nat → Prop, P = (fun k => (k < w.heap.size ∧ ¬ rb k) ∨ (W.drew.heap.size ≤ k ∧ k < wU.heap.size) ∨ wD.heap.size ≤ k) := ⟨_, rfl⟩
 obtain ⟨PK, hPK⟩ : ∃ P : Nat → Prop, P = (fun k => (k < w.heap.size ∧ ¬ rb k) ∨ (wT.heap.size ≤ k ∧ k < wK.heap.size)) := ⟨_, rfl⟩
 obtain ⟨PT, hPT⟩ : ∃ P : Nat → Prop, P = (fun k => True ∧ wU.heap.size ≤ k ∧ k < wT.heap.size ∧ ∃ q, q ∈ 33 :: kS.E ∧ ∃ cells, wT.heap[k]? = some (Obj.cells cells q)) := ⟨_, rfl⟩
 obtain ⟨PD, hPD⟩ : ∃ P : Nat → Prop, P = (fun k => True ∧ wK.heap.size ≤ k ∧ k < wD.heap.size ∧ ∃ q, q ∈ 48 :: kD.E ∧ ∃ cells, wD.heap[k]? = some (Obj.cells cells q)) := ⟨_, rfl⟩
 rw [← hPU, ← hPK, ← hPT, ← hPD] at OI AP
 rw [← hPU] at FR
 clear hPU hPK hPT hPD NU RT NK RD XBD XB XR HB Z1 Z2 Z3 Z4 HZ VU VK CT CD SMU SMT SMK SMD hHeld
 have p0 := (ownI_cells OI.out).1
 have hmU : M.U.length ≤ 9223372036854775807 := (Kd.F_max (Kd.V_F (Kd.N_V (base' := 0) OI.out.2.2.2.1)))
 go_wp2
 clear p0
 go_loopw [26] (fun v26 wr => ∃ i : Nat, i ≤ M.U.length ∧ v26 = .int .i64 i ∧ Aside0 (OwnI w M (.slice BU M.U.length dU) (.slice BT M.T.length dT) (.slice BK M.K.length dK) (.slice BD M.D.length dD) PU PT PK PD wr) ∧ Aside0 (wa.heap.size ≤ wr.heap.size)) (fun v26 _ => M.U.length - (intOf v26).toNat)
 case atStart => exact ⟨0, by omega, rfl, OI, ⟨Nat.le_refl _⟩⟩
 case round =>
  clear OI
  obtain ⟨i, hi, rfl, OI, LE⟩ := hrel
  by_cases hlt : i < M.U.length
  ·obtain ⟨gU, kU', hv, _, hgU, _⟩ := Kd.N_form OI.out.2.2.2.1 (by omega)
   injection hv with hv1 hv2 hv3
   subst hv1
   obtain ⟨Ak, ck, hck, hCk, a0, a1, a2, _⟩ := ownI_atU OI.out hlt
   go_upto_region 5 with (fail)
   obtain ⟨W5, hW5⟩ : ∃ W5, W5 = wr.alloc (.cells #[.int .i64 (rdU M.U i).no, .int .i64 (rdU M.U i).role, .slice Ak (rdU M.U i).key.length ck] 67) := ⟨_, rfl⟩
   rw [← hW5]
   have hb5 : Below wr.heap.size wr W5 := by rw [hW5]; exact below_alloc (Below.refl _ _) _
   have EB := aq_ (show W5.drew.heap[wr.heap.size]? = some (.cells #[.int .i64 (rdU M.U i).no, .int .i64 (rdU M.U i).role, .slice Ak (rdU M.U i).key.length ck] 67 (0, 0)) by rw [hW5]; exact blk_drew (blk_new _ _))
   clear hW5
   have OI := aq_ (ownI_below OI.out (below_drew hb5))
   have CK5 := aq_ (show (Kd.int .u8).C W5.drew Ak (rdU M.U i).key.length (rdU M.U i).key from Kd.C_below hCk (below_drew hb5))
   have SK5 := aq_ (SKY.out (rdU M.U i) (by rw [rdU_get _ hlt]; exact List.getElem_mem hlt))
   have LE := aq_ (Nat.le_trans LE.out hb5.size)
   have L5 := aq_ (show wa.heap.size ≤ W5.drew.heap.size from LE.out)
   have GU := aq_ (show gU < W5.drew.heap.size from Nat.lt_of_lt_of_le hgU hb5.size)
   clear hb5 hCk a0 a1 a2 hgU
   refine start_ (n := 9) (S := fun w' => w'.cell? ⟨w.heap.size, 0, none⟩ = some (.slice (some ⟨gU, 0, none⟩) M.U.length dU) ∧ w'.cell? ⟨wr.heap.size, 2, none⟩ = some (.slice Ak (rdU M.U i).key.length ck)) (ds := [8]) #[false, false, false, false, false, false, false, false, false] (by kernel_rfl) rfl rfl ⟨(ownI_cells OI.out).1, blk_cell EB.out 2⟩ (fun hHeld => ?_)
   refine pz_ 0 (some 31) (bt_ 9 1) ?_
   refine pz_ 2 (some 33) (bt_ 9 5) ?_
   refine pz_ 3 (some 34) (bt_ 9 13) ?_
   refine tz_ 1 (some 32) (bt_ 9 15) hHeld ?_
   refine tz_ 4 (some 35) (bt_ 9 31) hHeld ?_
   refine gz_ 5 (some 36) (bt_ 9 63) Tryz.func55 #[.slice Ak (rdU M.U i).key.length ck] fun K hK => ?_
   with_reducible refine (byte_clone (rdU M.U i).key Ak ck _ CK5.out SK5.out).mono ?_
   rintro e wk ⟨vk, rfl, hR_, hb_⟩
   refine ⟨_, rfl, ?_⟩
   obtain ⟨Bk, dk, rfl⟩ := Kd.R_slice hR_
   have RK := aq_ (Kd.R_bound hR_)
   have OI := aq_ (ownI_below OI.out hb_)
   have EB := aq_ (blk_below EB.out hb_)
   have LE := aq_ (Nat.le_trans LE.out hb_.size)
   clear hR_ hb_
   refine hK.out _ _ ⟨(ownI_cells OI.out).1, blk_cell EB.out 2⟩ (fun hHeld => ?_)
   clear hK K
   refine nz_ ?_
   refine pz_ 6 (some 37) (bt_ 9 127) ?_
   refine pz_ 7 (some 38) (bt_ 9 255) ?_
   refine last_ (i := 8) (N := none) (bt_ 9 511) rfl rfl (by kernel_rfl) (by decide) (fun K hK => ?_)
   obtain ⟨_, _, _, _, y0, y1, y2, y3⟩ := ownI_atU OI.out hlt
   refine skip_ (w1 := ?_) (by rfl) rfl ?_ ?_
   rotate_left
   ·go_simp
    rfl
   have OI := aq_ (ownI_setU OI.out hlt RK.out (fun k hk => ⟨FR.out k (Nat.le_trans L5.out hk.2.1), fun e => Nat.lt_irrefl _ (Nat.lt_of_lt_of_le GU.out (e ▸ hk.2.1))⟩) (apart_U AP.out))
   clear y0 y1 y2 y3
   refine hK.out _ _ ?_
   clear hK K
   refine done_ (by kernel_rfl) ?_
   go_wp2
   go_roundw
   case rel => exact ⟨i + 1, by omega, by go_num, OI, ⟨by have h := LE.out; simpa only [size_set] using h⟩⟩
   case measure => simp [intOf]; omega
  ·obtain rfl : i = M.U.length := by omega
   obtain ⟨QU, QT, QK, QD, hOI, hAQ, hFK⟩ := ownI_phase OI.out AP.out
   have OI := aq_ hOI
   have AQ := aq_ hAQ
   have q0 := (ownI_cells hOI).2
   have hmK : M.K.length ≤ 9223372036854775807 := (Kd.F_max (Kd.V_F (Kd.N_V (base' := 0) hOI.2.2.2.2.2.1)))
   obtain ⟨wb, rfl⟩ : ∃ wb, wb = wr := ⟨_, rfl⟩
   have FK := aq_ hFK
   clear hOI hAQ hFK LE FR AP
   go_wp2
   clear q0
   go_loopw [43] (fun v43 wr => ∃ i : Nat, i ≤ M.K.length ∧ v43 = .int .i64 i ∧ Aside0 (OwnI w M (.slice BU M.U.length dU) (.slice BT M.T.length dT) (.slice BK M.K.length dK) (.slice BD M.D.length dD) QU QT QK QD wr) ∧ Aside0 (wb.heap.size ≤ wr.heap.size)) (fun v43 _ => M.K.length - (intOf v43).toNat)
   case atStart => exact ⟨0, by omega, rfl, OI, ⟨Nat.le_refl _⟩⟩
   case round =>
    clear OI
    obtain ⟨i, hi, rfl, OI, LE⟩ := hrel
    by_cases hlt : i < M.K.length
    ·obtain ⟨gK, kK', hv, _, hgK, _⟩ := Kd.N_form OI.out.2.2.2.2.2.1 (by omega)
     injection hv with hv1 hv2 hv3
     subst hv1
     obtain ⟨At, ct, hVt, a0, a1, a2, _⟩ := ownI_atK OI.out hlt
     have hVn := ownI_noK OI.out hlt hVt a0 a1 a2
     go_upto_region 10 with (fail)
     obtain ⟨W5, hW5⟩ : ∃ W5, W5 = wr.alloc (.cells #[.int .i64 (rd_T24 M.K i).f0, .int .i64 (rd_T24 M.K i).f1, .slice At (rd_T24 M.K i).f2.length ct] 36) := ⟨_, rfl⟩
     rw [← hW5]
     have hb5 : Below wr.heap.size wr W5 := by rw [hW5]; exact below_alloc (Below.refl _ _) _
     have EB := aq_ (show W5.drew.heap[wr.heap.size]? = some (.cells #[.int .i64 (rd_T24 M.K i).f0, .int .i64 (rd_T24 M.K i).f1, .slice At (rd_T24 M.K i).f2.length ct] 36 (0, 0)) by rw [hW5]; exact blk_drew (blk_new _ _))
     clear hW5
     have OI := aq_ (ownI_below OI.out (below_drew hb5))
     have VT5 := aq_ (Kd.V_below hVn (below_drew hb5))
     have ST5 := aq_ (STM.out (rd_T24 M.K i) (rdT_mem _ hlt))
     have LE := aq_ (Nat.le_trans LE.out hb5.size)
     have L5 := aq_ (show wb.heap.size ≤ W5.drew.heap.size from LE.out)
     have GU := aq_ (show gK < W5.drew.heap.size from Nat.lt_of_lt_of_le hgK hb5.size)
     clear hb5 hVt hVn a0 a1 a2 hgK
     refine start_ (n := 7) (S := fun w' => w'.cell? ⟨w.heap.size, 5, none⟩ = some (.slice (some ⟨gK, 0, none⟩) M.K.length dK) ∧ w'.cell? ⟨wr.heap.size, 0, none⟩ = some (.int .i64 (rd_T24 M.K i).f0) ∧ w'.cell? ⟨wr.heap.size, 1, none⟩ = some (.int .i64 (rd_T24 M.K i).f1) ∧ w'.cell? ⟨wr.heap.size, 2, none⟩ = some (.slice At (rd_T24 M.K i).f2.length ct)) (ds := [6]) #[false, false, false, false, false, false, false] (by kernel_rfl) rfl rfl ⟨(ownI_cells OI.out).2, blk_cell EB.out 0, blk_cell EB.out 1, blk_cell EB.out 2⟩ (fun hHeld => ?_)
     refine pz_ 0 (some 48) (bt_ 7 1) ?_
     refine pz_ 2 (some 50) (bt_ 7 5) ?_
     refine tz_ 1 (some 49) (bt_ 7 7) hHeld ?_
     refine tz_ 3 (some 51) (bt_ 7 15) hHeld ?_
     refine gz_ 4 (some 52) (bt_ 7 31) Tryz.func56 #[.agg #[.int .i64 (rd_T24 M.K i).f0, .int .i64 (rd_T24 M.K i).f1, .slice At (rd_T24 M.K i).f2.length ct]] fun K hK => ?_
     with_reducible refine (own_any (rd_T24 M.K i) ST5.out (fun k => QK k ∧ k ≠ gK) At ct _ (V_base VT5.out)).mono ?_
     rintro e wk ⟨vk, rfl, hN_, hb_⟩
     refine ⟨_, rfl, ?_⟩
     obtain ⟨Bk, dk, rfl⟩ := Kd.N_slice hN_
     have NK5 := aq_ (Kd.N_V (base' := 0) hN_)
     have OI := aq_ (ownI_below OI.out hb_)
     have EB := aq_ (blk_below EB.out hb_)
     have LE := aq_ (Nat.le_trans LE.out hb_.size)
     clear hN_ hb_
     refine hK.out _ _ ⟨(ownI_cells OI.out).2, blk_cell EB.out 0, blk_cell EB.out 1, blk_cell EB.out 2⟩ (fun hHeld => ?_)
     clear hK K
     refine nz_ ?_
     refine pz_ 5 (some 53) (bt_ 7 63) ?_
     refine last_ (i := 6) (N := none) (bt_ 7 127) rfl rfl (by kernel_rfl) (by decide) (fun K hK => ?_)
     obtain ⟨_, _, _, y0, y1, y2, y3, y4, y5⟩ := ownI_atK OI.out hlt
     refine skip_ (w1 := ?_) (by rfl) rfl ?_ ?_
     rotate_left
     ·go_simp
      rfl
     have OI := aq_ (ownI_setK OI.out hlt NK5.out (fun k hk => Or.elim hk (fun h => h) (fun h => ⟨FK.out k (Nat.le_trans L5.out h), fun e => Nat.lt_irrefl _ (Nat.lt_of_lt_of_le GU.out (e ▸ h))⟩)) (apart_K AQ.out))
     clear y0 y1 y2 y3 y4 y5
     refine hK.out _ _ ?_
     clear hK K
     refine done_ (by kernel_rfl) ?_
     go_wp2
     go_roundw
     case rel => exact ⟨i + 1, by omega, by go_num, OI, ⟨by have h := LE.out; simpa only [size_set] using h⟩⟩
     case measure => simp [intOf]; omega
    ·obtain rfl : i = M.K.length := by omega
     obtain ⟨⟨y0, y1, y2, y3, y4, y5, y6⟩, _⟩ := cells7 OI.out.1
     obtain ⟨_, z0, z1, z2, z3, z4, z5, z6⟩ := cells7 OI.out.2.1
     go_wp2
     refine bodyPost_ret (v := .agg (mca M (.slice BU M.U.length dU) (.slice BT M.T.length dT) (.slice BK M.K.length dK) (.slice BD M.D.length dD))) (ret_7 rfl (g := w.heap.size + 1) rfl (put_7 OI.out.2.1)) rfl ⟨_, _, _, _, rfl, ownI_end OI.out AQ.out (fun k hk => far_7 hk), below_7 OI.out.2.2.1 (Nat.le_succ _)⟩
end Go.Proofs.YtdinphnljokigaaGreat.P
end
