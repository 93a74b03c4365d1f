/- What LawSymAgree rests on, part 38: several texts put together. -/
import Derived.Test.YtdinphnljokigaaGreatS37
import Derived.Test.YtdinphnljokigaaGreatS14
import Derived.Test.YtdinphnljokigaaGreatS36
import Derived.Test.YtdinphnljokigaaGreatS3
set_option linter.unusedVariables false
set_option linter.unnecessarySimpa false
set_option linter.unusedSimpArgs false
set_option maxRecDepth 100000
section
namespace Go.Proofs.YtdinphnljokigaaGreat.P
open Go.RowKit Go.Lib Go.Proofs.YtdinphnljokigaaGreatW.PrintWords Go.Proofs.YtdinphnljokigaaGreatW.PrintLast Go.Proofs.YtdinphnljokigaaGreatW.PrintMore
set_option maxHeartbeats 8000000 in
theorem awake_any (w : World) : Calls Tryz.prog 6 #[] w fun e w' => e = .returned (.bool true) ∧ Below w.heap.size w w' := by
 go_enter Tryz.func6, Tryz.ntmps6
 go_upto_region 2 with (first
  | ((go_at_call 20; (with_reducible refine (key16_any 1 _).mono ?_)); rintro e w1 ⟨v, rfl, hk, hb⟩; obtain ⟨Ak, ck, rfl, hck, hCk⟩ := Kd.R_reads hk; have HB := aq_ hb; have HK := aq_ hCk; have HCK := aq_ hck; clear hk hb hck hCk))
 have HU := aq_ (usr_told _ ⟨3, 2, List.replicate 16 1⟩ HCK.out HK.out)
 have LB := aq_ (Nat.le_of_lt (Nat.lt_of_le_of_lt HB.out.size (lt_al w1 (.cells #[.int .i64 3, .int .i64 2, .slice Ak (List.replicate 16 (1 : Int)).length ck] 67))))
 replace HB := aq_ (below_alloc HB.out (.cells #[.int .i64 3, .int .i64 2, .slice Ak (List.replicate 16 (1 : Int)).length ck] 67))
 clear HK HCK
 go_upto_region 3 with (first
  | ((go_at_call 10; (with_reducible refine (start_1 _ 1 _).mono ?_)); rintro e w2 ⟨rfl, hb⟩; have HM0 := aq_ (start_md (told_belowG HU.out hb)); replace HB := aq_ (HB.out.trans (Below.mono hb LB.out)); replace LB := aq_ (Nat.le_trans LB.out (Below.size hb)); clear hb HU)
  | ((with_reducible refine build_F13 (.const (.int .i64 3)) (.const (.int .u64 5)) rfl rfl rfl rfl ?_))
  | ((with_reducible refine build_S2 (.const (.int .u64 8)) rfl rfl rfl ?_))
  | ((with_reducible refine build_A012 (.const (.int .i64 1)) (.tmp 22) (.tmp 23) rfl rfl rfl rfl rfl ?_))
  | ((go_at_call 12; (with_reducible refine (step_at (startM wU 9) wA1 (.slice (some ⟨w1.heap.size, 0, none⟩) wU.length 1) (.slice none 0 0) (.slice none 0 0) (.slice none 0 0) (.slice none 0 0) aw_1 _ (fun _ => False) no_q HM0.out wf_1 (by decide) told_nil).mono ?_)); rintro e w6 ⟨vU', vT', vK', vD', rfl, hO, hb⟩; obtain ⟨⟨U1, cU1, rfl⟩, ⟨T1, cT1, rfl⟩, ⟨K1, cK1, rfl⟩, ⟨D1, cD1, rfl⟩⟩ := mdO_slices hO; replace HB := aq_ (HB.out.trans (Below.mono hb LB.out)); replace LB := aq_ (Nat.le_trans LB.out (Below.size hb)); have HO := aq_ hO; clear hO; clear hb)
  | ((with_reducible refine alloc_Mo rfl rfl ?_); intro g2_ hgt w8 hbox hb; have MB_ := aq_ (mdO_of (r := fun k => k = g2_) (mdO_told HO.out) hb (fun k hk => by omega)); have G2G0 := LB.out; replace HB := aq_ (HB.out.trans (Below.mono hb LB.out)); replace LB := aq_ (Nat.le_trans LB.out (Below.size hb)); have G2G := aq_ (show w.heap.size ≤ g2_ by omega); have G2L := aq_ (blk_lt hbox); have TB := aq_ hbox; clear hgt hbox hb HO G2G0)
  | ((with_reducible refine store_Mo (.tmp 2) (.tmp 26) rfl rfl rfl rfl rfl rfl rfl rfl rfl rfl TB.out ?_); intro w9 hx1 hs1 hb1 hf1; replace HB := aq_ (hb1 _ _ (G2G.out) HB.out); replace LB := aq_ (Nat.le_trans LB.out (Nat.le_of_eq hs1.symm)); replace G2L := aq_ (Nat.lt_of_lt_of_le G2L.out (Nat.le_of_eq hs1.symm)); have M_ := aq_ (mdO_set MB_.out hf1); have S2 := aq_ hx1; clear hx1 hs1 hb1 hf1 TB MB_))
 have k2 : w9.cell? ⟨g2_, 2, none⟩ = some (.slice T1 1 cT1) := blk_cell S2.out 2
 obtain ⟨ad, hT1, hcS⟩ := one_S (told_C' (mdO_told M_.out).2.1).2.2
 subst hT1
 go_upto_region 5 with (first
  | fail)
 go_upto_region 6 with (first
  | ((with_reducible refine load_S (.tmp 34) rfl rfl (p := ad) rfl hcS ?_); clear k2 hcS)
  | ((with_reducible refine alloc_Se rfl rfl ?_); intro g4 hgt w8 hbox hb hs_; have ALB := aq_ hb; have N4 := aq_ (show g2_ < g4 by have h_ := G2L.out; omega); have ALG := aq_ hgt; have TB := aq_ hbox; clear hgt hbox hb hs_)
  | ((with_reducible refine store_Se2 (.tmp 4) (.tmp 35) rfl rfl rfl rfl rfl TB.out ?_); intro w9 hx1 hs1 hb1 hf1; have hbt := ALB.out.trans (hb1 _ (Nat.le_of_eq ALG.out.symm)); replace HB := aq_ (HB.out.trans (Below.mono hbt LB.out)); replace LB := aq_ (Nat.le_trans LB.out (Below.size hbt)); replace S2 := aq_ (blk_below S2.out hbt); replace M_ := aq_ (mdO_below M_.out hbt); replace G2L := aq_ (Nat.lt_of_lt_of_le G2L.out (Below.size hbt)); have S4 := aq_ hx1; clear hx1 hs1 hb1 hf1 hbt ALB ALG TB))
 go_upto_region 7 with (first
  | (with_reducible refine load_S (.tmp 4) rfl rfl (p := ⟨g4, 0, none⟩) rfl (cells_box S4.out) ?_)
  | (with_reducible refine build_F02 (.const (.int .i64 2)) (.const (.int .u64 8)) rfl rfl rfl rfl ?_)
  | ((go_at_call 18; (with_reducible refine (wproof_2 _).mono ?_)); rintro e w7 ⟨vp, rfl, hV0, hb⟩; have hV := keep_off hV0 G2L.out; clear hV0; obtain ⟨A5, c5, rfl⟩ := Kd.V_slice hV; replace HB := aq_ (HB.out.trans (Below.mono hb LB.out)); replace LB := aq_ (Nat.le_trans LB.out (Below.size hb)); replace S2 := aq_ (blk_below S2.out hb); replace S4 := aq_ (blk_below S4.out hb); replace M_ := aq_ (mdO_below M_.out hb); replace G2L := aq_ (Nat.lt_of_lt_of_le G2L.out (Below.size hb)); have V5 := aq_ (V_base (b' := 0) hV); clear hb hV)
  | ((with_reducible refine alloc_Te rfl rfl ?_); intro g5 hgt w8 hbox hb; have ALB := aq_ hb; have N5 := aq_ (show g2_ < g5 by have h_ := G2L.out; omega); have ALG := aq_ hgt; have TB := aq_ hbox; clear hgt hbox hb)
  | ((with_reducible refine store_Te2 (.tmp 5) (.tmp 40) rfl rfl rfl rfl rfl rfl TB.out ?_); intro w9 hx1 hs1 hb1 hf1; have hbt := ALB.out.trans (hb1 _ (Nat.le_of_eq ALG.out.symm)); replace HB := aq_ (HB.out.trans (Below.mono hbt LB.out)); replace LB := aq_ (Nat.le_trans LB.out (Below.size hbt)); replace S2 := aq_ (blk_below S2.out hbt); replace S4 := aq_ (blk_below S4.out hbt); replace M_ := aq_ (mdO_below M_.out hbt); replace V5 := aq_ (Kd.V_below V5.out hbt); replace G2L := aq_ (Nat.lt_of_lt_of_le G2L.out (Below.size hbt)); have S5 := aq_ hx1; clear hx1 hs1 hb1 hf1 hbt ALB ALG TB))
 go_upto_region 8 with (first
  | (with_reducible refine build_F4 (.const (.int .i64 4)) (.const (.int .u64 8)) (.const (.int .u64 1)) (.const (.int .i64 5)) rfl rfl rfl rfl rfl rfl ?_)
  | ((with_reducible refine alloc_Fr rfl rfl ?_); intro g7 hgt w8 hbox hb; have ALB := aq_ hb; have N7 := aq_ (show g2_ < g7 by have h_ := G2L.out; omega); have ALG := aq_ hgt; have TB := aq_ hbox; clear hgt hbox hb)
  | ((with_reducible refine store_Fr2 (.tmp 7) (.tmp 42) rfl rfl rfl rfl rfl TB.out ?_); intro w9 hx1 hs1 hb1; have hbt := ALB.out.trans (hb1 _ (Nat.le_of_eq ALG.out.symm)); replace HB := aq_ (HB.out.trans (Below.mono hbt LB.out)); replace LB := aq_ (Nat.le_trans LB.out (Below.size hbt)); replace S2 := aq_ (blk_below S2.out hbt); replace S4 := aq_ (blk_below S4.out hbt); replace M_ := aq_ (mdO_below M_.out hbt); replace S5 := aq_ (blk_below S5.out hbt); replace V5 := aq_ (Kd.V_below V5.out hbt); replace G2L := aq_ (Nat.lt_of_lt_of_le G2L.out (Below.size hbt)); have S7 := aq_ hx1; clear hx1 hs1 hb1 hbt ALB ALG TB))
 go_upto_region 9 with (first
  | (with_reducible refine load_S (.tmp 4) rfl rfl (p := ⟨g4, 0, none⟩) rfl (cells_box S4.out) ?_)
  | (with_reducible refine load_F (.tmp 7) rfl rfl (p := ⟨g7, 0, none⟩) rfl (cells_boxF S7.out) ?_)
  | ((go_at_call 18; (with_reducible refine (wproof_4 _).mono ?_)); rintro e w7 ⟨vp, rfl, hV0, hb⟩; have hV := keep_off hV0 G2L.out; clear hV0; obtain ⟨A8, c8, rfl⟩ := Kd.V_slice hV; replace HB := aq_ (HB.out.trans (Below.mono hb LB.out)); replace LB := aq_ (Nat.le_trans LB.out (Below.size hb)); replace S2 := aq_ (blk_below S2.out hb); replace S4 := aq_ (blk_below S4.out hb); replace M_ := aq_ (mdO_below M_.out hb); replace S5 := aq_ (blk_below S5.out hb); replace V5 := aq_ (Kd.V_below V5.out hb); replace S7 := aq_ (blk_below S7.out hb); replace G2L := aq_ (Nat.lt_of_lt_of_le G2L.out (Below.size hb)); have V8 := aq_ (V_base (b' := 0) hV); clear hb hV)
  | ((with_reducible refine alloc_Te rfl rfl ?_); intro g8 hgt w8 hbox hb; have ALB := aq_ hb; have N8 := aq_ (show g2_ < g8 by have h_ := G2L.out; omega); have ALG := aq_ hgt; have TB := aq_ hbox; clear hgt hbox hb)
  | ((with_reducible refine store_Te2 (.tmp 8) (.tmp 47) rfl rfl rfl rfl rfl rfl TB.out ?_); intro w9 hx1 hs1 hb1 hf1; have hbt := ALB.out.trans (hb1 _ (Nat.le_of_eq ALG.out.symm)); replace HB := aq_ (HB.out.trans (Below.mono hbt LB.out)); replace LB := aq_ (Nat.le_trans LB.out (Below.size hbt)); replace S2 := aq_ (blk_below S2.out hbt); replace S4 := aq_ (blk_below S4.out hbt); replace M_ := aq_ (mdO_below M_.out hbt); replace S5 := aq_ (blk_below S5.out hbt); replace V5 := aq_ (Kd.V_below V5.out hbt); replace S7 := aq_ (blk_below S7.out hbt); replace V8 := aq_ (Kd.V_below V8.out hbt); replace G2L := aq_ (Nat.lt_of_lt_of_le G2L.out (Below.size hbt)); have S8 := aq_ hx1; clear hx1 hs1 hb1 hf1 hbt ALB ALG TB))
 obtain ⟨⟨p50, p51, p52⟩, _⟩ := cells3 S5.out
 go_upto_region 10 with (first
  | (with_reducible refine load_Mo (.tmp 2) rfl rfl rfl S2.out ?_)
  | (with_reducible refine build_F02 (.const (.int .i64 2)) (.const (.int .u64 8)) rfl rfl rfl rfl ?_)
  | (with_reducible refine build_A2 (.const (.int .i64 1)) (.tmp 51) (.tmp 52) rfl rfl (proofT wx wF2) rfl rfl rfl ?_)
  | ((go_at_call 12; (with_reducible refine (wstep_2 (.slice U1 wM1.U.length cU1) (.slice (some ad) wM1.T.length cT1) (.slice K1 wM1.K.length cK1) (.slice D1 wM1.D.length cD1) _ _ (fun k => k = g2_) (fun k hk => by rw [hk]; exact G2L.out) M_.out (told_V V5.out)).mono ?_)); rintro e w6 ⟨vU', vT', vK', vD', rfl, hO, hb⟩; obtain ⟨⟨U2, cU2, rfl⟩, ⟨T2, cT2, rfl⟩, ⟨K2, cK2, rfl⟩, ⟨D2, cD2, rfl⟩⟩ := mdO_slices hO; replace HB := aq_ (HB.out.trans (Below.mono hb LB.out)); replace LB := aq_ (Nat.le_trans LB.out (Below.size hb)); replace S2 := aq_ (blk_below S2.out hb); replace S4 := aq_ (blk_below S4.out hb); replace M_ := aq_ (mdO_below M_.out hb); replace S5 := aq_ (blk_below S5.out hb); replace V5 := aq_ (Kd.V_below V5.out hb); replace S7 := aq_ (blk_below S7.out hb); replace S8 := aq_ (blk_below S8.out hb); replace V8 := aq_ (Kd.V_below V8.out hb); replace G2L := aq_ (Nat.lt_of_lt_of_le G2L.out (Below.size hb)); have HO_ := aq_ hO; clear hO hb p50 p51 p52)
  | ((with_reducible refine store_Mo (.tmp 2) (.tmp 55) rfl rfl rfl rfl rfl rfl rfl rfl rfl rfl S2.out ?_); intro w9 hx1 hs1 hb1 hf1; replace HB := aq_ (hb1 _ _ (G2G.out) HB.out); replace LB := aq_ (Nat.le_trans LB.out (Nat.le_of_eq hs1.symm)); replace G2L := aq_ (Nat.lt_of_lt_of_le G2L.out (Nat.le_of_eq hs1.symm)); clear M_; have M_ := aq_ (mdO_set HO_.out hf1); clear S2; have S2 := aq_ hx1; replace S4 := aq_ ((hf1 _ (Nat.ne_of_gt N4.out)).trans S4.out); replace S5 := aq_ ((hf1 _ (Nat.ne_of_gt N5.out)).trans S5.out); replace V5 := aq_ (Kd.V_step V5.out fun k hk _ => hf1 k hk); replace S7 := aq_ ((hf1 _ (Nat.ne_of_gt N7.out)).trans S7.out); replace S8 := aq_ ((hf1 _ (Nat.ne_of_gt N8.out)).trans S8.out); replace V8 := aq_ (Kd.V_step V8.out fun k hk _ => hf1 k hk); clear hx1 hs1 hb1 hf1 HO_))
 obtain ⟨⟨p50, p51, p52⟩, _⟩ := cells3 S5.out
 go_upto_region 11 with (first
  | (with_reducible refine load_Mo (.tmp 2) rfl rfl rfl S2.out ?_)
  | (with_reducible refine load_F (.tmp 7) rfl rfl (p := ⟨g7, 0, none⟩) rfl (cells_boxF S7.out) ?_)
  | (with_reducible refine build_A3 (.const (.int .i64 1)) (.tmp 59) (.tmp 60) rfl rfl (proofT wx wF2) rfl rfl rfl ?_)
  | ((go_at_call 12; (with_reducible refine (wstep_3 (.slice U2 wM2.U.length cU2) (.slice T2 wM2.T.length cT2) (.slice K2 wM2.K.length cK2) (.slice D2 wM2.D.length cD2) _ _ (fun k => k = g2_) (fun k hk => by rw [hk]; exact G2L.out) M_.out (told_V V5.out)).mono ?_)); rintro e w6 ⟨vU', vT', vK', vD', rfl, hO, hb⟩; obtain ⟨⟨U3, cU3, rfl⟩, ⟨T3, cT3, rfl⟩, ⟨K3, cK3, rfl⟩, ⟨D3, cD3, rfl⟩⟩ := mdO_slices hO; replace HB := aq_ (HB.out.trans (Below.mono hb LB.out)); replace LB := aq_ (Nat.le_trans LB.out (Below.size hb)); replace S2 := aq_ (blk_below S2.out hb); replace S4 := aq_ (blk_below S4.out hb); replace M_ := aq_ (mdO_below M_.out hb); replace S5 := aq_ (blk_below S5.out hb); replace V5 := aq_ (Kd.V_below V5.out hb); replace S7 := aq_ (blk_below S7.out hb); replace S8 := aq_ (blk_below S8.out hb); replace V8 := aq_ (Kd.V_below V8.out hb); replace G2L := aq_ (Nat.lt_of_lt_of_le G2L.out (Below.size hb)); have HO_ := aq_ hO; clear hO hb p50 p51 p52)
  | ((with_reducible refine alloc_Mo rfl rfl ?_); intro g11 hgt w8 hbox hb; have ALB := aq_ hb; have ALG := aq_ hgt; have TB := aq_ hbox; clear hgt hbox hb)
  | ((with_reducible refine store_Mo (.tmp 11) (.tmp 63) rfl rfl rfl rfl rfl rfl rfl rfl rfl rfl TB.out ?_); intro w9 hx1 hs1 hb1 hf1; have hbt := hb1 _ _ (Nat.le_of_eq ALG.out.symm) ALB.out; replace HB := aq_ (HB.out.trans (Below.mono hbt LB.out)); replace LB := aq_ (Nat.le_trans LB.out (Below.size hbt)); replace S2 := aq_ (blk_below S2.out hbt); replace S4 := aq_ (blk_below S4.out hbt); replace M_ := aq_ (mdO_below M_.out hbt); replace S5 := aq_ (blk_below S5.out hbt); replace V5 := aq_ (Kd.V_below V5.out hbt); replace S7 := aq_ (blk_below S7.out hbt); replace S8 := aq_ (blk_below S8.out hbt); replace V8 := aq_ (Kd.V_below V8.out hbt); replace G2L := aq_ (Nat.lt_of_lt_of_le G2L.out (Below.size hbt)); clear hx1 hs1 hb1 hf1 hbt ALB ALG TB HO_))
 obtain ⟨⟨p80, p81, p82⟩, _⟩ := cells3 S8.out
 go_upto_region 12 with (first
  | (with_reducible refine load_Mo (.tmp 2) rfl rfl rfl S2.out ?_)
  | (with_reducible refine load_F (.tmp 7) rfl rfl (p := ⟨g7, 0, none⟩) rfl (cells_boxF S7.out) ?_)
  | (with_reducible refine build_A3 (.const (.int .i64 1)) (.tmp 67) (.tmp 68) rfl rfl (proofT wx wC) rfl rfl rfl ?_)
  | ((go_at_call 12; (with_reducible refine (wstep_4 (.slice U2 wM2.U.length cU2) (.slice T2 wM2.T.length cT2) (.slice K2 wM2.K.length cK2) (.slice D2 wM2.D.length cD2) _ _ (fun k => k = g2_) (fun k hk => by rw [hk]; exact G2L.out) M_.out (told_V V8.out)).mono ?_)); rintro e w6 ⟨vU', vT', vK', vD', rfl, hO, hb⟩; obtain ⟨⟨U4, cU4, rfl⟩, ⟨T4, cT4, rfl⟩, ⟨K4, cK4, rfl⟩, ⟨D4, cD4, rfl⟩⟩ := mdO_slices hO; replace HB := aq_ (HB.out.trans (Below.mono hb LB.out)); replace LB := aq_ (Nat.le_trans LB.out (Below.size hb)); replace S2 := aq_ (blk_below S2.out hb); replace S4 := aq_ (blk_below S4.out hb); replace M_ := aq_ (mdO_below M_.out hb); replace S5 := aq_ (blk_below S5.out hb); replace V5 := aq_ (Kd.V_below V5.out hb); replace S7 := aq_ (blk_below S7.out hb); replace S8 := aq_ (blk_below S8.out hb); replace V8 := aq_ (Kd.V_below V8.out hb); replace G2L := aq_ (Nat.lt_of_lt_of_le G2L.out (Below.size hb)); have HO_ := aq_ hO; clear hO hb p80 p81 p82)
  | ((with_reducible refine store_Mo (.tmp 2) (.tmp 71) rfl rfl rfl rfl rfl rfl rfl rfl rfl rfl S2.out ?_); intro w9 hx1 hs1 hb1 hf1; replace HB := aq_ (hb1 _ _ (G2G.out) HB.out); replace LB := aq_ (Nat.le_trans LB.out (Nat.le_of_eq hs1.symm)); replace G2L := aq_ (Nat.lt_of_lt_of_le G2L.out (Nat.le_of_eq hs1.symm)); clear M_; have M_ := aq_ (mdO_set HO_.out hf1); clear S2; have S2 := aq_ hx1; replace S4 := aq_ ((hf1 _ (Nat.ne_of_gt N4.out)).trans S4.out); replace S5 := aq_ ((hf1 _ (Nat.ne_of_gt N5.out)).trans S5.out); replace V5 := aq_ (Kd.V_step V5.out fun k hk _ => hf1 k hk); replace S7 := aq_ ((hf1 _ (Nat.ne_of_gt N7.out)).trans S7.out); replace S8 := aq_ ((hf1 _ (Nat.ne_of_gt N8.out)).trans S8.out); replace V8 := aq_ (Kd.V_step V8.out fun k hk _ => hf1 k hk); clear hx1 hs1 hb1 hf1 HO_))
 clear S5 V5 S7 S8 V8
 go_upto_region 13 with (first
  | (with_reducible refine load_S (.tmp 4) rfl rfl (p := ⟨g4, 0, none⟩) rfl (cells_box S4.out) ?_)
  | ((go_at_call 21; (with_reducible refine (key_w _).mono ?_)); rintro e w7 ⟨vp, rfl, hV0, hb⟩; obtain ⟨A14, c14, rfl⟩ := Kd.V_slice hV0; replace HB := aq_ (HB.out.trans (Below.mono hb LB.out)); replace LB := aq_ (Nat.le_trans LB.out (Below.size hb)); replace S2 := aq_ (blk_below S2.out hb); replace S4 := aq_ (blk_below S4.out hb); replace M_ := aq_ (mdO_below M_.out hb); replace G2L := aq_ (Nat.lt_of_lt_of_le G2L.out (Below.size hb)); clear hb hV0)
  | ((with_reducible refine alloc_Te rfl rfl ?_); intro g14 hgt w8 hbox hb; have ALB := aq_ hb; have N14 := aq_ (show g2_ < g14 by have h_ := G2L.out; omega); have ALG := aq_ hgt; have TB := aq_ hbox; clear hgt hbox hb)
  | ((with_reducible refine store_Te2 (.tmp 14) (.tmp 76) rfl rfl rfl rfl rfl rfl TB.out ?_); intro w9 hx1 hs1 hb1 hf1; have hbt := ALB.out.trans (hb1 _ (Nat.le_of_eq ALG.out.symm)); replace HB := aq_ (HB.out.trans (Below.mono hbt LB.out)); replace LB := aq_ (Nat.le_trans LB.out (Below.size hbt)); replace S2 := aq_ (blk_below S2.out hbt); replace S4 := aq_ (blk_below S4.out hbt); replace M_ := aq_ (mdO_below M_.out hbt); replace G2L := aq_ (Nat.lt_of_lt_of_le G2L.out (Below.size hbt)); have S14 := aq_ hx1; clear hx1 hs1 hb1 hf1 hbt ALB ALG TB))
 have k6 : w9.cell? ⟨g2_, 6, none⟩ = some (.slice D4 1 cD4) := blk_cell S2.out 6
 obtain ⟨ae, hD4, hcD⟩ := one_D (told_C' (mdO_told M_.out).2.2.2).2.2
 subst hD4
 go_wp2_with (first
  | ((with_reducible refine gate_load 42 (.tmp 2) rfl ?_); refine load_Mw (.tmp 2) rfl (by rfl) rfl S2.out ?_)
  | ((go_at_call 22; (with_reducible refine (may_w3 (.slice U4 wM3.U.length cU4) (.slice T4 wM3.T.length cT4) (.slice K4 wM3.K.length cK4) (.slice (some ae) wM3.D.length cD4) _ (mdO_told M_.out)).mono ?_)); rintro e w7 ⟨rfl, hb⟩; replace HB := aq_ (HB.out.trans (Below.mono hb LB.out)); replace LB := aq_ (Nat.le_trans LB.out (Below.size hb)); replace S2 := aq_ (blk_below S2.out hb); replace M_ := aq_ (mdO_below M_.out hb); clear hb k6 hcD)
  | ((go_at_call 23; (with_reducible refine (same_w3 (.slice U4 wM3.U.length cU4) (.slice T4 wM3.T.length cT4) (.slice K4 wM3.K.length cK4) (.slice (some ae) wM3.D.length cD4) _ (mdO_told M_.out)).mono ?_)); rintro e w7 ⟨rfl, hb⟩; replace HB := aq_ (HB.out.trans (Below.mono hb LB.out)); replace LB := aq_ (Nat.le_trans LB.out (Below.size hb)); clear hb))
 go_ret
 exact ⟨rfl, HB.out⟩
def dca (x : Don) : Array Value := #[.int .i64 x.user, .int .i64 x.epoch, .int .u64 x.draw, .int .u64 x.cn, .int .u64 x.count, .int .i64 x.cmd, .int .i64 x.arg]
theorem infoDo : (Tryz.prog.info? 48).map (·.size) = some 7 := by kernel_rfl
section
variable {ops : Array Oper} {rest : List Oper} {o : Oper} {a : Act} {w : World} {Q : Exit → Act → World → Prop}
theorem run_allocDo (w : World) : (Instr.alloc 48 true (.tuple #[])).run Tryz.prog w = .ok (.pointer (some ⟨w.heap.size, 0, none⟩)) (w.alloc (.cells (dca zdon) 48)) := by kernel_rfl
theorem alloc_Do (ho : o.op = .alloc 48) (hgd : o.guard = none) (h : ∀ g, g = w.heap.size → ∀ w1 : World, w1.heap[g]? = some (.cells (dca zdon) 48 (0, 0)) → Below w.heap.size w w1 → wpList Tryz.prog ops Q rest (a.put o.dst (.pointer (some ⟨g, 0, none⟩))) w1) : wpList Tryz.prog ops Q (o :: rest) a w := by
 refine Kd.event_run hgd (v := .pointer (some ⟨w.heap.size, 0, none⟩)) ?_ (h _ rfl (w.alloc (.cells (dca zdon) 48)) (blk_new w _) (below_alloc (Below.refl _ _) _))
 unfold execOp
 simp only [ho, Sem.run_bind, run_allocDo, Result.andThen_ok, Sem.run_pure]
theorem store_Do (x y : Operand) (ho : o.op = .store 48 x y) (hgd : o.guard = none) (hN : o.dst = none) {g : Nat} (s : Don) {old : Array Value} (hx : a.eval x = .pointer (some ⟨g, 0, none⟩)) (hy : a.eval y = .agg (dca s)) (hold : old.size = 7) (hg : w.heap[g]? = some (.cells old 48 (0, 0)))
  (h : ∀ w1 : World, w1.heap[g]? = some (.cells (dca s) 48 (0, 0)) → (∀ B, B ≤ g → Below B w w1) → wpList Tryz.prog ops Q rest a w1) : wpList Tryz.prog ops Q (o :: rest) a w := by
 refine wpList_store_row hgd 48 x y ho g (dca s) hx hy 48 old hg (by rw [infoDo]; rfl) (by rw [hold]; rfl) ?_ ?_
 ·simp [dca, Value.oneCell']
 ·rw [hN]
  refine h _ (setRow_heap _ _ _ _ _ _ hg) (fun B hB => ?_)
  have hb := Below.refl B w
  refine ⟨hb.os, hb.tape, hb.output, (by simpa only [size_setRow] using hb.size), fun k hk => ?_⟩
  rw [setRow_other _ _ _ _ (by omega)]
end
section
variable {ops : Array Oper} {rest : List Oper} {o : Oper} {a : Act} {w : World} {Q : Exit → Act → World → Prop}
theorem run_boxDo (w : World) (s : Don) : (Instr.box 48 (.agg (dca s))).run Tryz.prog w = .ok (.pointer (some ⟨w.heap.size, 0, none⟩)) (w.alloc (.cells (dca s) 48)) := by kernel_rfl
theorem box_Do (x : Operand) {s : Don} (ho : o.op = .box 48 x) (hgd : o.guard = none) (hx : a.eval x = .agg (dca s)) (h : ∀ g, g = w.heap.size → ∀ w1 : World, w1.heap[g]? = some (.cells (dca s) 48 (0, 0)) → Below w.heap.size w w1 → wpList Tryz.prog ops Q rest (a.put o.dst (.pointer (some ⟨g, 0, none⟩))) w1) : wpList Tryz.prog ops Q (o :: rest) a w := by
 refine Kd.event_run hgd (v := .pointer (some ⟨w.heap.size, 0, none⟩)) ?_ (h _ rfl (w.alloc (.cells (dca s) 48)) (blk_new w _) (below_alloc (Below.refl _ _) _))
 unfold execOp
 simp only [ho, hx, Sem.run_bind, run_boxDo, Result.andThen_ok, Sem.run_pure]
end
theorem acts_XF2 {w : World} {ad : Addr} {a : Ac} {v : Value} (h : ∀ j u, (acl a v)[j]? = some u → w.cell? (ad.add j) = some u) : (∀ j u, (scl a.X)[j]? = some u → w.cell? ((⟨ad.block, ad.off + 41, none⟩ : Addr).add j) = some u) ∧ ∀ j u, (fcl a.F)[j]? = some u → w.cell? ((⟨ad.block, ad.off + 1, none⟩ : Addr).add j) = some u := by
 have e : ∀ j, 0 < j → ad.add j = ⟨ad.block, ad.off + j, none⟩ := fun j hj => by unfold Addr.add; rw [if_neg (by omega)]
 refine ⟨fun j u hu => ?_, fun j u hu => ?_⟩
 ·rw [← e 41 (by omega), add_add_']
  exact h _ _ (acl_X a v j u hu)
 ·rw [← e 1 (by omega), add_add_']
  exact h _ _ (acl_F a v j u hu)
theorem zip_get {l : List Ac} {es : List Int} {i : Nat} {a : Ac} {e : Int} (ha : l[i]? = some a) (he : es[i]? = some e) : (l.zip es)[i]? = some (a, e) := by
 rw [List.getElem?_zip_eq_some]
 exact ⟨ha, he⟩
theorem sent_snoc {d : Don} {l : List Ac} {es : List Int} {i : Nat} {a : Ac} {e : Int} (h : sentB d ((l.zip es).take i) = false) (ha : l[i]? = some a) (he : es[i]? = some e) (hn : okE d a e = false) : sentB d ((l.zip es).take (i + 1)) = false := by
 obtain ⟨hi, e1⟩ := List.getElem?_eq_some_iff.1 (zip_get ha he)
 rw [List.take_succ_eq_append_getElem hi, e1]
 unfold sentB at h ⊢
 rw [List.any_append, h]
 simp [hn]
theorem sent_yes {d : Don} {l : List Ac} {es : List Int} {i n : Nat} {a : Ac} {e : Int} (hi : i < n) (ha : l[i]? = some a) (he : es[i]? = some e) (hn : okE d a e = true) : sentB d ((l.zip es).take n) = true := by
 unfold sentB
 rw [List.any_eq_true]
 refine ⟨(a, e), List.mem_of_getElem? (i := i) ?_, hn⟩
 rw [List.getElem?_take_of_lt hi]
 exact zip_get ha he
set_option maxHeartbeats 8000000 in
theorem sent_any (d : Don) (l : List Ac) (es : List Int) (A Ae : Option Addr) (c ce n : Nat) (w : World) (hl : kA.C w A l.length l) (he : (Kd.int .i64).C w Ae es.length es) (hn1 : n ≤ l.length) (hn2 : n ≤ es.length) :
  Calls Tryz.prog 13 #[.agg (dca d), .slice A l.length c, .slice Ae es.length ce, .int .i64 n] w fun e w' => e = .returned (.bool (sentB d ((l.zip es).take n))) ∧ Below w.heap.size w w' := by
 have CA := aq_ hl
 have CE := aq_ he
 have hml : l.length ≤ 9223372036854775807 := hl.2.1
 have hml2 : es.length ≤ 9223372036854775807 := he.2.1
 have HB := aq_ (Below.refl w.heap.size w)
 have LB := aq_ (Nat.le_refl w.heap.size)
 clear hl he
 go_enter Tryz.func13, Tryz.ntmps13
 go_upto_region 1 with ((with_reducible refine box_Do (.tmp 0) (s := d) rfl rfl rfl ?_); intro g4 hg w1 hbox hbt; replace HB := aq_ (HB.out.trans (Below.mono hbt LB.out)); replace LB := aq_ (Nat.le_trans LB.out (Below.size hbt)); have X4 := aq_ hbox; clear hg hbox hbt)
 go_wp2
 go_loopw [9, 10, 11] (fun v9 v10 v11 wr => ∃ i : Nat, i ≤ n ∧ v9 = .int .i64 i ∧ Aside0 (sentB d ((l.zip es).take i) = false) ∧ Aside0 (wr.heap[g4]? = some (.cells (dca d) 48 (0, 0))) ∧ Aside0 (Below w.heap.size w wr) ∧ Aside0 (w.heap.size ≤ wr.heap.size)) (fun v9 v10 v11 _ => n - (intOf v9).toNat)
 case atStart => exact ⟨0, by omega, rfl, ⟨by simp [sentB]⟩, X4, HB, LB⟩
 case round =>
  clear X4 HB LB
  obtain ⟨i, hi, rfl, HN, X4, HB, LB⟩ := hrel
  by_cases hlt : i < n
  ·have hd1 : decide ((i : Int) < n) = true := by simp; omega
   have hd2 : decide ((i : Int) < l.length) = true := by simp; omega
   have hd3 : decide ((i : Int) < es.length) = true := by simp; omega
   have hi1 : i < l.length := by omega
   have hi2 : i < es.length := by omega
   obtain ⟨a, ha⟩ : ∃ a, l[i]? = some a := ⟨_, List.getElem?_eq_getElem hi1⟩
   obtain ⟨e1, he1⟩ : ∃ e1, es[i]? = some e1 := ⟨_, List.getElem?_eq_getElem hi2⟩
   have HA := aq_ ha
   have HE := aq_ he1
   clear ha he1
   obtain ⟨ad, A2, c2, hA, hcs, _, _⟩ := at_A (Kd.C_below CA.out HB.out) i hi1 a HA.out
   obtain ⟨cX, _⟩ := acts_XF2 hcs
   subst hA
   clear hcs
   go_upto_region 5 with (first
    | ((with_reducible refine load_S (.tmp 32) rfl rfl (p := ⟨(ad.add (i * 83)).block, (ad.add (i * 83)).off + 41, none⟩) rfl cX ?_); clear cX)
    | ((with_reducible refine alloc_Se rfl rfl ?_); intro g10 hgt w8 hbox hb hs_; have ALB := aq_ hb; have ALG := aq_ hgt; have TB := aq_ hbox; clear hgt hbox hb hs_)
    | ((with_reducible refine store_Se2 (.tmp 10) (.tmp 33) rfl rfl rfl rfl rfl TB.out ?_); intro w9 hx1 hs1 hb1 hf1; have hbt := ALB.out.trans (hb1 _ (Nat.le_of_eq ALG.out.symm)); replace HB := aq_ (HB.out.trans (Below.mono hbt LB.out)); replace LB := aq_ (Nat.le_trans LB.out (Below.size hbt)); replace X4 := aq_ (blk_below X4.out hbt); have X10 := aq_ hx1; clear hx1 hs1 hb1 hf1 hbt ALB ALG TB))
   obtain ⟨ad', A2', c2', hA, hcs, _, _⟩ := at_A (Kd.C_below CA.out HB.out) i hi1 a HA.out
   cases hA
   obtain ⟨_, cF⟩ := acts_XF2 hcs
   clear hcs
   go_upto_region 6 with (first
    | ((with_reducible refine load_F (.tmp 37) rfl rfl (p := ⟨(ad.add (i * 83)).block, (ad.add (i * 83)).off + 1, none⟩) rfl cF ?_); clear cF)
    | ((with_reducible refine alloc_Fr rfl rfl ?_); intro g11 hgt w8 hbox hb; have ALB := aq_ hb; have ALG := aq_ hgt; have TB := aq_ hbox; clear hgt hbox hb)
    | ((with_reducible refine store_Fr2 (.tmp 11) (.tmp 38) rfl rfl rfl rfl rfl TB.out ?_); intro w9 hx1 hs1 hb1; have hbt := ALB.out.trans (hb1 _ (Nat.le_of_eq ALG.out.symm)); replace HB := aq_ (HB.out.trans (Below.mono hbt LB.out)); replace LB := aq_ (Nat.le_trans LB.out (Below.size hbt)); replace X4 := aq_ (blk_below X4.out hbt); replace X10 := aq_ (blk_below X10.out hbt); have X11 := aq_ hx1; clear hx1 hs1 hb1 hbt ALB ALG TB))
   obtain ⟨ad', A2', c2', hA, hcs, _, _⟩ := at_A (Kd.C_below CA.out HB.out) i hi1 a HA.out
   cases hA
   obtain ⟨k0, _, _⟩ := acts_at hcs
   obtain ⟨ae, hAe, ee⟩ := at_int (Kd.C_below CE.out HB.out) i hi2 e1 HE.out
   subst hAe
   clear hcs
   obtain ⟨x0, x1, x2, x3, _⟩ := cellsS X10.out
   obtain ⟨f0, _, _, _, _, f5, f6, f7⟩ := cellsF X11.out
   have d0 : w9.cell? ⟨g4, 0, none⟩ = some (.int .i64 d.user) := blk_cell X4.out 0
   have d1 : w9.cell? ⟨g4, 1, none⟩ = some (.int .i64 d.epoch) := blk_cell X4.out 1
   have d2 : w9.cell? ⟨g4, 2, none⟩ = some (.int .u64 d.draw) := blk_cell X4.out 2
   have d3 : w9.cell? ⟨g4, 3, none⟩ = some (.int .u64 d.cn) := blk_cell X4.out 3
   have d4 : w9.cell? ⟨g4, 4, none⟩ = some (.int .u64 d.count) := blk_cell X4.out 4
   have d5 : w9.cell? ⟨g4, 5, none⟩ = some (.int .i64 d.cmd) := blk_cell X4.out 5
   have d6 : w9.cell? ⟨g4, 6, none⟩ = some (.int .i64 d.arg) := blk_cell X4.out 6
   have HR := Below.refl w9.heap.size w9
   refine plain_ [0,3,6,9,13,15,18,21,24,27,31,33,36,39,42,46,48,52,54,57,60,63,67,69,73,75,78,81,84,88,90,94,96,99,102,105,109,111,115,117,120,123,126,130,132,135,138,141,145,147,151,153,156,159,162,166,168,172,174,177,180,183,187,189,193,195,198] [] (Below w9.heap.size w9) ?_
   refine p_ ?_
   refine p_ ?_
   refine p_ ?_
   refine p_ ?_
   refine lr_ k0 HR ?_
   refine pb_ fun c1 hc1 => ?_
   refine p_ ?_
   refine pc_ ?_
   refine pc_ ?_
   refine pc_ ?_
   refine lrc_ (fun _ => ee) HR ?_
   refine pc_ ?_
   refine pk_ fun c2 hc2 => ?_
   refine p_ ?_
   refine pc_ ?_
   refine ldc_ X10.out HR ?_
   refine pc_ ?_
   refine ldc_ X4.out HR ?_
   refine pc_ ?_
   refine pk_ fun c3 hc3 => ?_
   refine p_ ?_
   refine pc_ ?_
   refine ldc_ X10.out HR ?_
   refine pc_ ?_
   refine ldc_ X4.out HR ?_
   refine pc_ ?_
   refine pk_ fun c4 hc4 => ?_
   refine p_ ?_
   refine pc_ ?_
   refine ldc_ X10.out HR ?_
   refine pc_ ?_
   refine ldc_ X4.out HR ?_
   refine pc_ ?_
   refine pk_ fun c5 hc5 => ?_
   refine p_ ?_
   refine pc_ ?_
   refine ldc_ X10.out HR ?_
   refine pc_ ?_
   refine ldc_ X4.out HR ?_
   refine pc_ ?_
   refine pk_ fun c6 hc6 => ?_
   refine p_ ?_
   refine pc_ ?_
   refine ldc_ X11.out HR ?_
   refine pc_ ?_
   refine pk_ fun c7 hc7 => ?_
   refine p_ ?_
   refine pc_ ?_
   refine ldc_ X11.out HR ?_
   refine pc_ ?_
   refine ldc_ X4.out HR ?_
   refine pc_ ?_
   refine pk_ fun c8 hc8 => ?_
   refine p_ ?_
   refine pc_ ?_
   refine ldc_ X11.out HR ?_
   refine pc_ ?_
   refine ldc_ X4.out HR ?_
   refine pc_ ?_
   refine pk_ fun c9 hc9 => ?_
   refine p_ ?_
   refine pc_ ?_
   refine ldc_ X11.out HR ?_
   refine pc_ ?_
   refine ldc_ X4.out HR ?_
   refine pc_ ?_
   refine pk_ fun c10 hc10 => ?_
   refine WO.nil ?_
   have HV := aq_ (show okE d a e1 = c10 by rw [← hc10.out, ← hc9.out, ← hc8.out, ← hc7.out, ← hc6.out, ← hc5.out, ← hc4.out, ← hc3.out, ← hc2.out, ← hc1.out]; simp [okE, Bool.and_assoc])
   clear hc1 hc2 hc3 hc4 hc5 hc6 hc7 hc8 hc9 hc10
   cases c10
   case false =>
    have HN' := aq_ (sent_snoc HN.out HA.out HE.out HV.out)
    go_wp2
    go_roundw
    case rel => exact ⟨i + 1, by omega, by go_num, HN', X4, HB, LB⟩
    case measure => simp [intOf]; omega
   replace HV := aq_ (sent_yes hlt HA.out HE.out (d := d) HV.out)
   go_wp2
   go_ret
   exact ⟨ret_bool HV.out.symm, HB.out⟩
  ·obtain rfl : i = n := by omega
   have hd1 : decide ((i : Int) < i) = false := by simp
   go_wp2
   go_ret
   exact ⟨ret_bool HN.out.symm, HB.out⟩
section
variable {ops : Array Oper} {rest : List Oper} {o : Oper} {a : Act} {w : World} {Q : Exit → Act → World → Prop} {K : Act → World → Prop}
end
theorem refInK_any (l : List S24) (u : Int) (A : Option Addr) (c : Nat) (w : World) (hC : Kd.C k24 w A l.length l) :
  Calls Tryz.prog 14 #[.slice A l.length c, .agg #[.int .i64 1, .int .i64 u, .slice none 0 0]] w fun e w' => e = .returned (.bool (inL l (keyP u))) ∧ Below w.heap.size w w' := refIn_any l (keyP u) A none c 0 w hC (Kd.C_nil _ _)
end Go.Proofs.YtdinphnljokigaaGreat.P
end
