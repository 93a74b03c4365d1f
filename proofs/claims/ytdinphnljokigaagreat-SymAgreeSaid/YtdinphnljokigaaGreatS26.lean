/- What LawSymAgree rests on, part 26: several texts put together. -/
import Derived.Test.YtdinphnljokigaaGreatS25
import Derived.Test.YtdinphnljokigaaGreatS3
set_option linter.unusedVariables false
set_option linter.unnecessarySimpa false
set_option linter.unusedSimpArgs false
set_option maxRecDepth 100000
section
namespace Go.Proofs.YtdinphnljokigaaGreat.P
open Go.RowKit Go.Lib Go.Proofs.YtdinphnljokigaaGreatW.PrintWords Go.Proofs.YtdinphnljokigaaGreatW.PrintLast Go.Proofs.YtdinphnljokigaaGreatW.PrintMore
def sameM (M N : Mdl) : Bool := decide (M.U = N.U) && ((M.idle == N.idle) && (decide (M.T = N.T) && ((M.epoch == N.epoch) && ((M.now == N.now) && (sameLs M.K N.K && decide (M.D = N.D))))))
set_option maxHeartbeats 4000000 in
theorem sameM_0 (M N : Mdl) (vU vT vK vD uU uT uK uD : Value) (w : World) (hm : MdC w M vU vT vK vD) (hn : MdC w N uU uT uK uD) (t0 : decide (M.U = N.U) = false) :
  Calls Tryz.prog 23 #[.agg (mca M vU vT vK vD), .agg (mca N uU uT uK uD)] w fun e w' => e = .returned (.bool false) ∧ Below w.heap.size w w' := by
 have T0 := aq_ t0
 obtain ⟨⟨AU, cU, rfl, _, hCU⟩, ⟨AT, cT, rfl, _, hCT⟩, ⟨AK, cK, rfl, hLK, hCK⟩, ⟨AD, cD, rfl, _, hCD⟩⟩ := hm
 obtain ⟨⟨BU, dU, rfl, _, hEU⟩, ⟨BT, dT, rfl, _, hET⟩, ⟨BK, dK, rfl, hNK, hEK⟩, ⟨BD, dD, rfl, _, hED⟩⟩ := hn
 have CU := aq_ hCU
 have CT := aq_ hCT
 have CK := aq_ hCK
 have CD := aq_ hCD
 have EU := aq_ hEU
 have ET := aq_ hET
 have EK := aq_ hEK
 have ED := aq_ hED
 have LK := aq_ hLK
 have NK := aq_ hNK
 clear hCU hCT hCK hCD hEU hET hEK hED hLK hNK t0
 unfold mca
 go_enter Tryz.func23, Tryz.ntmps23
 go_upto_region 1 with (fail)
 obtain ⟨W, hW⟩ : ∃ W, W = (w.alloc (.cells #[.slice AU M.U.length cU, .int .i64 M.idle, .slice AT M.T.length cT, .int .i64 M.epoch, .int .i64 M.now, .slice AK M.K.length cK, .slice AD M.D.length cD] 42)).alloc (.cells #[.slice BU N.U.length dU, .int .i64 N.idle, .slice BT N.T.length dT, .int .i64 N.epoch, .int .i64 N.now, .slice BK N.K.length dK, .slice BD N.D.length dD] 42) := ⟨_, rfl⟩
 rw [← hW]
 have G := aq_ (show W.heap[w.heap.size]? = some (.cells #[.slice AU M.U.length cU, .int .i64 M.idle, .slice AT M.T.length cT, .int .i64 M.epoch, .int .i64 M.now, .slice AK M.K.length cK, .slice AD M.D.length cD] 42 (0, 0)) by rw [hW]; exact (two_new w _ _).1)
 have H := aq_ (show W.heap[w.heap.size + 1]? = some (.cells #[.slice BU N.U.length dU, .int .i64 N.idle, .slice BT N.T.length dT, .int .i64 N.epoch, .int .i64 N.now, .slice BK N.K.length dK, .slice BD N.D.length dD] 42 (0, 0)) by rw [hW]; exact (two_new w _ _).2)
 have HB := aq_ (show Below w.heap.size w W by rw [hW]; exact below_alloc (below_alloc (Below.refl _ _) _) _)
 clear hW
 obtain ⟨c0, c1, c2, c3, c4, c5, c6⟩ := (cells7 G.out).1
 obtain ⟨d0, d1, d2, d3, d4, d5, d6⟩ := (cells7 H.out).1
 go_wp2_with (first
  | ((go_at_call 46; (with_reducible refine (usame_any M.U N.U AU BU cU dU _ (Kd.C_below CU.out HB.out) (Kd.C_below EU.out HB.out)).mono ?_)); rw [T0.out]; rintro e w_ ⟨rfl, hb⟩; replace HB := aq_ (below_step HB.out hb); replace G := aq_ (blk_below G.out hb); replace H := aq_ (blk_below H.out hb); clear hb; obtain ⟨c0, c1, c2, c3, c4, c5, c6⟩ := (cells7 G.out).1; obtain ⟨d0, d1, d2, d3, d4, d5, d6⟩ := (cells7 H.out).1))
 go_ret
 exact ⟨rfl, HB.out⟩
set_option maxHeartbeats 4000000 in
theorem sameM_1 (M N : Mdl) (vU vT vK vD uU uT uK uD : Value) (w : World) (hm : MdC w M vU vT vK vD) (hn : MdC w N uU uT uK uD) (t0 : decide (M.U = N.U) = true) (t1 : (M.idle == N.idle) = false) :
  Calls Tryz.prog 23 #[.agg (mca M vU vT vK vD), .agg (mca N uU uT uK uD)] w fun e w' => e = .returned (.bool false) ∧ Below w.heap.size w w' := by
 have T0 := aq_ t0
 obtain ⟨⟨AU, cU, rfl, _, hCU⟩, ⟨AT, cT, rfl, _, hCT⟩, ⟨AK, cK, rfl, hLK, hCK⟩, ⟨AD, cD, rfl, _, hCD⟩⟩ := hm
 obtain ⟨⟨BU, dU, rfl, _, hEU⟩, ⟨BT, dT, rfl, _, hET⟩, ⟨BK, dK, rfl, hNK, hEK⟩, ⟨BD, dD, rfl, _, hED⟩⟩ := hn
 have CU := aq_ hCU
 have CT := aq_ hCT
 have CK := aq_ hCK
 have CD := aq_ hCD
 have EU := aq_ hEU
 have ET := aq_ hET
 have EK := aq_ hEK
 have ED := aq_ hED
 have LK := aq_ hLK
 have NK := aq_ hNK
 clear hCU hCT hCK hCD hEU hET hEK hED hLK hNK t0
 unfold mca
 go_enter Tryz.func23, Tryz.ntmps23
 go_upto_region 1 with (fail)
 obtain ⟨W, hW⟩ : ∃ W, W = (w.alloc (.cells #[.slice AU M.U.length cU, .int .i64 M.idle, .slice AT M.T.length cT, .int .i64 M.epoch, .int .i64 M.now, .slice AK M.K.length cK, .slice AD M.D.length cD] 42)).alloc (.cells #[.slice BU N.U.length dU, .int .i64 N.idle, .slice BT N.T.length dT, .int .i64 N.epoch, .int .i64 N.now, .slice BK N.K.length dK, .slice BD N.D.length dD] 42) := ⟨_, rfl⟩
 rw [← hW]
 have G := aq_ (show W.heap[w.heap.size]? = some (.cells #[.slice AU M.U.length cU, .int .i64 M.idle, .slice AT M.T.length cT, .int .i64 M.epoch, .int .i64 M.now, .slice AK M.K.length cK, .slice AD M.D.length cD] 42 (0, 0)) by rw [hW]; exact (two_new w _ _).1)
 have H := aq_ (show W.heap[w.heap.size + 1]? = some (.cells #[.slice BU N.U.length dU, .int .i64 N.idle, .slice BT N.T.length dT, .int .i64 N.epoch, .int .i64 N.now, .slice BK N.K.length dK, .slice BD N.D.length dD] 42 (0, 0)) by rw [hW]; exact (two_new w _ _).2)
 have HB := aq_ (show Below w.heap.size w W by rw [hW]; exact below_alloc (below_alloc (Below.refl _ _) _) _)
 clear hW
 obtain ⟨c0, c1, c2, c3, c4, c5, c6⟩ := (cells7 G.out).1
 obtain ⟨d0, d1, d2, d3, d4, d5, d6⟩ := (cells7 H.out).1
 go_wp2_with (first
  | ((go_at_call 46; (with_reducible refine (usame_any M.U N.U AU BU cU dU _ (Kd.C_below CU.out HB.out) (Kd.C_below EU.out HB.out)).mono ?_)); rw [T0.out]; rintro e w_ ⟨rfl, hb⟩; replace HB := aq_ (below_step HB.out hb); replace G := aq_ (blk_below G.out hb); replace H := aq_ (blk_below H.out hb); clear hb; obtain ⟨c0, c1, c2, c3, c4, c5, c6⟩ := (cells7 G.out).1; obtain ⟨d0, d1, d2, d3, d4, d5, d6⟩ := (cells7 H.out).1))
 go_ret
 exact ⟨rfl, HB.out⟩
set_option maxHeartbeats 4000000 in
theorem sameM_2 (M N : Mdl) (vU vT vK vD uU uT uK uD : Value) (w : World) (hm : MdC w M vU vT vK vD) (hn : MdC w N uU uT uK uD) (t0 : decide (M.U = N.U) = true) (t1 : (M.idle == N.idle) = true) (t2 : decide (M.T = N.T) = false) :
  Calls Tryz.prog 23 #[.agg (mca M vU vT vK vD), .agg (mca N uU uT uK uD)] w fun e w' => e = .returned (.bool false) ∧ Below w.heap.size w w' := by
 have T0 := aq_ t0
 have T2 := aq_ t2
 obtain ⟨⟨AU, cU, rfl, _, hCU⟩, ⟨AT, cT, rfl, _, hCT⟩, ⟨AK, cK, rfl, hLK, hCK⟩, ⟨AD, cD, rfl, _, hCD⟩⟩ := hm
 obtain ⟨⟨BU, dU, rfl, _, hEU⟩, ⟨BT, dT, rfl, _, hET⟩, ⟨BK, dK, rfl, hNK, hEK⟩, ⟨BD, dD, rfl, _, hED⟩⟩ := hn
 have CU := aq_ hCU
 have CT := aq_ hCT
 have CK := aq_ hCK
 have CD := aq_ hCD
 have EU := aq_ hEU
 have ET := aq_ hET
 have EK := aq_ hEK
 have ED := aq_ hED
 have LK := aq_ hLK
 have NK := aq_ hNK
 clear hCU hCT hCK hCD hEU hET hEK hED hLK hNK t0 t2
 unfold mca
 go_enter Tryz.func23, Tryz.ntmps23
 go_upto_region 1 with (fail)
 obtain ⟨W, hW⟩ : ∃ W, W = (w.alloc (.cells #[.slice AU M.U.length cU, .int .i64 M.idle, .slice AT M.T.length cT, .int .i64 M.epoch, .int .i64 M.now, .slice AK M.K.length cK, .slice AD M.D.length cD] 42)).alloc (.cells #[.slice BU N.U.length dU, .int .i64 N.idle, .slice BT N.T.length dT, .int .i64 N.epoch, .int .i64 N.now, .slice BK N.K.length dK, .slice BD N.D.length dD] 42) := ⟨_, rfl⟩
 rw [← hW]
 have G := aq_ (show W.heap[w.heap.size]? = some (.cells #[.slice AU M.U.length cU, .int .i64 M.idle, .slice AT M.T.length cT, .int .i64 M.epoch, .int .i64 M.now, .slice AK M.K.length cK, .slice AD M.D.length cD] 42 (0, 0)) by rw [hW]; exact (two_new w _ _).1)
 have H := aq_ (show W.heap[w.heap.size + 1]? = some (.cells #[.slice BU N.U.length dU, .int .i64 N.idle, .slice BT N.T.length dT, .int .i64 N.epoch, .int .i64 N.now, .slice BK N.K.length dK, .slice BD N.D.length dD] 42 (0, 0)) by rw [hW]; exact (two_new w _ _).2)
 have HB := aq_ (show Below w.heap.size w W by rw [hW]; exact below_alloc (below_alloc (Below.refl _ _) _) _)
 clear hW
 obtain ⟨c0, c1, c2, c3, c4, c5, c6⟩ := (cells7 G.out).1
 obtain ⟨d0, d1, d2, d3, d4, d5, d6⟩ := (cells7 H.out).1
 go_wp2_with (first
  | ((go_at_call 46; (with_reducible refine (usame_any M.U N.U AU BU cU dU _ (Kd.C_below CU.out HB.out) (Kd.C_below EU.out HB.out)).mono ?_)); rw [T0.out]; rintro e w_ ⟨rfl, hb⟩; replace HB := aq_ (below_step HB.out hb); replace G := aq_ (blk_below G.out hb); replace H := aq_ (blk_below H.out hb); clear hb; obtain ⟨c0, c1, c2, c3, c4, c5, c6⟩ := (cells7 G.out).1; obtain ⟨d0, d1, d2, d3, d4, d5, d6⟩ := (cells7 H.out).1)
  | ((go_at_call 47; (with_reducible refine (same_any M.T N.T AT BT cT dT _ (Kd.C_below CT.out HB.out) (Kd.C_below ET.out HB.out)).mono ?_)); rw [T2.out]; rintro e w_ ⟨rfl, hb⟩; replace HB := aq_ (below_step HB.out hb); replace G := aq_ (blk_below G.out hb); replace H := aq_ (blk_below H.out hb); clear hb; obtain ⟨c0, c1, c2, c3, c4, c5, c6⟩ := (cells7 G.out).1; obtain ⟨d0, d1, d2, d3, d4, d5, d6⟩ := (cells7 H.out).1))
 go_ret
 exact ⟨rfl, HB.out⟩
set_option maxHeartbeats 4000000 in
theorem sameM_3 (M N : Mdl) (vU vT vK vD uU uT uK uD : Value) (w : World) (hm : MdC w M vU vT vK vD) (hn : MdC w N uU uT uK uD) (t0 : decide (M.U = N.U) = true) (t1 : (M.idle == N.idle) = true) (t2 : decide (M.T = N.T) = true) (t3 : (M.epoch == N.epoch) = false) :
  Calls Tryz.prog 23 #[.agg (mca M vU vT vK vD), .agg (mca N uU uT uK uD)] w fun e w' => e = .returned (.bool false) ∧ Below w.heap.size w w' := by
 have T0 := aq_ t0
 have T2 := aq_ t2
 obtain ⟨⟨AU, cU, rfl, _, hCU⟩, ⟨AT, cT, rfl, _, hCT⟩, ⟨AK, cK, rfl, hLK, hCK⟩, ⟨AD, cD, rfl, _, hCD⟩⟩ := hm
 obtain ⟨⟨BU, dU, rfl, _, hEU⟩, ⟨BT, dT, rfl, _, hET⟩, ⟨BK, dK, rfl, hNK, hEK⟩, ⟨BD, dD, rfl, _, hED⟩⟩ := hn
 have CU := aq_ hCU
 have CT := aq_ hCT
 have CK := aq_ hCK
 have CD := aq_ hCD
 have EU := aq_ hEU
 have ET := aq_ hET
 have EK := aq_ hEK
 have ED := aq_ hED
 have LK := aq_ hLK
 have NK := aq_ hNK
 clear hCU hCT hCK hCD hEU hET hEK hED hLK hNK t0 t2
 unfold mca
 go_enter Tryz.func23, Tryz.ntmps23
 go_upto_region 1 with (fail)
 obtain ⟨W, hW⟩ : ∃ W, W = (w.alloc (.cells #[.slice AU M.U.length cU, .int .i64 M.idle, .slice AT M.T.length cT, .int .i64 M.epoch, .int .i64 M.now, .slice AK M.K.length cK, .slice AD M.D.length cD] 42)).alloc (.cells #[.slice BU N.U.length dU, .int .i64 N.idle, .slice BT N.T.length dT, .int .i64 N.epoch, .int .i64 N.now, .slice BK N.K.length dK, .slice BD N.D.length dD] 42) := ⟨_, rfl⟩
 rw [← hW]
 have G := aq_ (show W.heap[w.heap.size]? = some (.cells #[.slice AU M.U.length cU, .int .i64 M.idle, .slice AT M.T.length cT, .int .i64 M.epoch, .int .i64 M.now, .slice AK M.K.length cK, .slice AD M.D.length cD] 42 (0, 0)) by rw [hW]; exact (two_new w _ _).1)
 have H := aq_ (show W.heap[w.heap.size + 1]? = some (.cells #[.slice BU N.U.length dU, .int .i64 N.idle, .slice BT N.T.length dT, .int .i64 N.epoch, .int .i64 N.now, .slice BK N.K.length dK, .slice BD N.D.length dD] 42 (0, 0)) by rw [hW]; exact (two_new w _ _).2)
 have HB := aq_ (show Below w.heap.size w W by rw [hW]; exact below_alloc (below_alloc (Below.refl _ _) _) _)
 clear hW
 obtain ⟨c0, c1, c2, c3, c4, c5, c6⟩ := (cells7 G.out).1
 obtain ⟨d0, d1, d2, d3, d4, d5, d6⟩ := (cells7 H.out).1
 go_wp2_with (first
  | ((go_at_call 46; (with_reducible refine (usame_any M.U N.U AU BU cU dU _ (Kd.C_below CU.out HB.out) (Kd.C_below EU.out HB.out)).mono ?_)); rw [T0.out]; rintro e w_ ⟨rfl, hb⟩; replace HB := aq_ (below_step HB.out hb); replace G := aq_ (blk_below G.out hb); replace H := aq_ (blk_below H.out hb); clear hb; obtain ⟨c0, c1, c2, c3, c4, c5, c6⟩ := (cells7 G.out).1; obtain ⟨d0, d1, d2, d3, d4, d5, d6⟩ := (cells7 H.out).1)
  | ((go_at_call 47; (with_reducible refine (same_any M.T N.T AT BT cT dT _ (Kd.C_below CT.out HB.out) (Kd.C_below ET.out HB.out)).mono ?_)); rw [T2.out]; rintro e w_ ⟨rfl, hb⟩; replace HB := aq_ (below_step HB.out hb); replace G := aq_ (blk_below G.out hb); replace H := aq_ (blk_below H.out hb); clear hb; obtain ⟨c0, c1, c2, c3, c4, c5, c6⟩ := (cells7 G.out).1; obtain ⟨d0, d1, d2, d3, d4, d5, d6⟩ := (cells7 H.out).1))
 go_ret
 exact ⟨rfl, HB.out⟩
set_option maxHeartbeats 4000000 in
theorem sameM_4 (M N : Mdl) (vU vT vK vD uU uT uK uD : Value) (w : World) (hm : MdC w M vU vT vK vD) (hn : MdC w N uU uT uK uD) (t0 : decide (M.U = N.U) = true) (t1 : (M.idle == N.idle) = true) (t2 : decide (M.T = N.T) = true) (t3 : (M.epoch == N.epoch) = true) (t4 : (M.now == N.now) = false) :
  Calls Tryz.prog 23 #[.agg (mca M vU vT vK vD), .agg (mca N uU uT uK uD)] w fun e w' => e = .returned (.bool false) ∧ Below w.heap.size w w' := by
 have T0 := aq_ t0
 have T2 := aq_ t2
 obtain ⟨⟨AU, cU, rfl, _, hCU⟩, ⟨AT, cT, rfl, _, hCT⟩, ⟨AK, cK, rfl, hLK, hCK⟩, ⟨AD, cD, rfl, _, hCD⟩⟩ := hm
 obtain ⟨⟨BU, dU, rfl, _, hEU⟩, ⟨BT, dT, rfl, _, hET⟩, ⟨BK, dK, rfl, hNK, hEK⟩, ⟨BD, dD, rfl, _, hED⟩⟩ := hn
 have CU := aq_ hCU
 have CT := aq_ hCT
 have CK := aq_ hCK
 have CD := aq_ hCD
 have EU := aq_ hEU
 have ET := aq_ hET
 have EK := aq_ hEK
 have ED := aq_ hED
 have LK := aq_ hLK
 have NK := aq_ hNK
 clear hCU hCT hCK hCD hEU hET hEK hED hLK hNK t0 t2
 unfold mca
 go_enter Tryz.func23, Tryz.ntmps23
 go_upto_region 1 with (fail)
 obtain ⟨W, hW⟩ : ∃ W, W = (w.alloc (.cells #[.slice AU M.U.length cU, .int .i64 M.idle, .slice AT M.T.length cT, .int .i64 M.epoch, .int .i64 M.now, .slice AK M.K.length cK, .slice AD M.D.length cD] 42)).alloc (.cells #[.slice BU N.U.length dU, .int .i64 N.idle, .slice BT N.T.length dT, .int .i64 N.epoch, .int .i64 N.now, .slice BK N.K.length dK, .slice BD N.D.length dD] 42) := ⟨_, rfl⟩
 rw [← hW]
 have G := aq_ (show W.heap[w.heap.size]? = some (.cells #[.slice AU M.U.length cU, .int .i64 M.idle, .slice AT M.T.length cT, .int .i64 M.epoch, .int .i64 M.now, .slice AK M.K.length cK, .slice AD M.D.length cD] 42 (0, 0)) by rw [hW]; exact (two_new w _ _).1)
 have H := aq_ (show W.heap[w.heap.size + 1]? = some (.cells #[.slice BU N.U.length dU, .int .i64 N.idle, .slice BT N.T.length dT, .int .i64 N.epoch, .int .i64 N.now, .slice BK N.K.length dK, .slice BD N.D.length dD] 42 (0, 0)) by rw [hW]; exact (two_new w _ _).2)
 have HB := aq_ (show Below w.heap.size w W by rw [hW]; exact below_alloc (below_alloc (Below.refl _ _) _) _)
 clear hW
 obtain ⟨c0, c1, c2, c3, c4, c5, c6⟩ := (cells7 G.out).1
 obtain ⟨d0, d1, d2, d3, d4, d5, d6⟩ := (cells7 H.out).1
 go_wp2_with (first
  | ((go_at_call 46; (with_reducible refine (usame_any M.U N.U AU BU cU dU _ (Kd.C_below CU.out HB.out) (Kd.C_below EU.out HB.out)).mono ?_)); rw [T0.out]; rintro e w_ ⟨rfl, hb⟩; replace HB := aq_ (below_step HB.out hb); replace G := aq_ (blk_below G.out hb); replace H := aq_ (blk_below H.out hb); clear hb; obtain ⟨c0, c1, c2, c3, c4, c5, c6⟩ := (cells7 G.out).1; obtain ⟨d0, d1, d2, d3, d4, d5, d6⟩ := (cells7 H.out).1)
  | ((go_at_call 47; (with_reducible refine (same_any M.T N.T AT BT cT dT _ (Kd.C_below CT.out HB.out) (Kd.C_below ET.out HB.out)).mono ?_)); rw [T2.out]; rintro e w_ ⟨rfl, hb⟩; replace HB := aq_ (below_step HB.out hb); replace G := aq_ (blk_below G.out hb); replace H := aq_ (blk_below H.out hb); clear hb; obtain ⟨c0, c1, c2, c3, c4, c5, c6⟩ := (cells7 G.out).1; obtain ⟨d0, d1, d2, d3, d4, d5, d6⟩ := (cells7 H.out).1))
 go_ret
 exact ⟨rfl, HB.out⟩
set_option maxHeartbeats 4000000 in
theorem sameM_5 (M N : Mdl) (vU vT vK vD uU uT uK uD : Value) (w : World) (hm : MdC w M vU vT vK vD) (hn : MdC w N uU uT uK uD) (t0 : decide (M.U = N.U) = true) (t1 : (M.idle == N.idle) = true) (t2 : decide (M.T = N.T) = true) (t3 : (M.epoch == N.epoch) = true) (t4 : (M.now == N.now) = true) (t5 : sameLs M.K N.K = false) :
  Calls Tryz.prog 23 #[.agg (mca M vU vT vK vD), .agg (mca N uU uT uK uD)] w fun e w' => e = .returned (.bool false) ∧ Below w.heap.size w w' := by
 have T0 := aq_ t0
 have T2 := aq_ t2
 have T5 := aq_ t5
 obtain ⟨⟨AU, cU, rfl, _, hCU⟩, ⟨AT, cT, rfl, _, hCT⟩, ⟨AK, cK, rfl, hLK, hCK⟩, ⟨AD, cD, rfl, _, hCD⟩⟩ := hm
 obtain ⟨⟨BU, dU, rfl, _, hEU⟩, ⟨BT, dT, rfl, _, hET⟩, ⟨BK, dK, rfl, hNK, hEK⟩, ⟨BD, dD, rfl, _, hED⟩⟩ := hn
 have CU := aq_ hCU
 have CT := aq_ hCT
 have CK := aq_ hCK
 have CD := aq_ hCD
 have EU := aq_ hEU
 have ET := aq_ hET
 have EK := aq_ hEK
 have ED := aq_ hED
 have LK := aq_ hLK
 have NK := aq_ hNK
 clear hCU hCT hCK hCD hEU hET hEK hED hLK hNK t0 t2 t5
 unfold mca
 go_enter Tryz.func23, Tryz.ntmps23
 go_upto_region 1 with (fail)
 obtain ⟨W, hW⟩ : ∃ W, W = (w.alloc (.cells #[.slice AU M.U.length cU, .int .i64 M.idle, .slice AT M.T.length cT, .int .i64 M.epoch, .int .i64 M.now, .slice AK M.K.length cK, .slice AD M.D.length cD] 42)).alloc (.cells #[.slice BU N.U.length dU, .int .i64 N.idle, .slice BT N.T.length dT, .int .i64 N.epoch, .int .i64 N.now, .slice BK N.K.length dK, .slice BD N.D.length dD] 42) := ⟨_, rfl⟩
 rw [← hW]
 have G := aq_ (show W.heap[w.heap.size]? = some (.cells #[.slice AU M.U.length cU, .int .i64 M.idle, .slice AT M.T.length cT, .int .i64 M.epoch, .int .i64 M.now, .slice AK M.K.length cK, .slice AD M.D.length cD] 42 (0, 0)) by rw [hW]; exact (two_new w _ _).1)
 have H := aq_ (show W.heap[w.heap.size + 1]? = some (.cells #[.slice BU N.U.length dU, .int .i64 N.idle, .slice BT N.T.length dT, .int .i64 N.epoch, .int .i64 N.now, .slice BK N.K.length dK, .slice BD N.D.length dD] 42 (0, 0)) by rw [hW]; exact (two_new w _ _).2)
 have HB := aq_ (show Below w.heap.size w W by rw [hW]; exact below_alloc (below_alloc (Below.refl _ _) _) _)
 clear hW
 obtain ⟨c0, c1, c2, c3, c4, c5, c6⟩ := (cells7 G.out).1
 obtain ⟨d0, d1, d2, d3, d4, d5, d6⟩ := (cells7 H.out).1
 go_wp2_with (first
  | ((go_at_call 46; (with_reducible refine (usame_any M.U N.U AU BU cU dU _ (Kd.C_below CU.out HB.out) (Kd.C_below EU.out HB.out)).mono ?_)); rw [T0.out]; rintro e w_ ⟨rfl, hb⟩; replace HB := aq_ (below_step HB.out hb); replace G := aq_ (blk_below G.out hb); replace H := aq_ (blk_below H.out hb); clear hb; obtain ⟨c0, c1, c2, c3, c4, c5, c6⟩ := (cells7 G.out).1; obtain ⟨d0, d1, d2, d3, d4, d5, d6⟩ := (cells7 H.out).1)
  | ((go_at_call 47; (with_reducible refine (same_any M.T N.T AT BT cT dT _ (Kd.C_below CT.out HB.out) (Kd.C_below ET.out HB.out)).mono ?_)); rw [T2.out]; rintro e w_ ⟨rfl, hb⟩; replace HB := aq_ (below_step HB.out hb); replace G := aq_ (blk_below G.out hb); replace H := aq_ (blk_below H.out hb); clear hb; obtain ⟨c0, c1, c2, c3, c4, c5, c6⟩ := (cells7 G.out).1; obtain ⟨d0, d1, d2, d3, d4, d5, d6⟩ := (cells7 H.out).1)
  | ((go_at_call 48; (with_reducible refine (know_Same.calls AK cK M.K BK dK N.K _ _ (Kd.C_below CK.out HB.out) LK.out (Kd.C_below EK.out HB.out) NK.out rfl).mono ?_)); rw [T5.out]; rintro e w_ ⟨rfl, hb⟩; replace HB := aq_ (below_step HB.out hb); replace G := aq_ (blk_below G.out hb); replace H := aq_ (blk_below H.out hb); clear hb; obtain ⟨c0, c1, c2, c3, c4, c5, c6⟩ := (cells7 G.out).1; obtain ⟨d0, d1, d2, d3, d4, d5, d6⟩ := (cells7 H.out).1))
 go_ret
 exact ⟨rfl, HB.out⟩
set_option maxHeartbeats 4000000 in
theorem sameM_6 (M N : Mdl) (vU vT vK vD uU uT uK uD : Value) (w : World) (hm : MdC w M vU vT vK vD) (hn : MdC w N uU uT uK uD) (t0 : decide (M.U = N.U) = true) (t1 : (M.idle == N.idle) = true) (t2 : decide (M.T = N.T) = true) (t3 : (M.epoch == N.epoch) = true) (t4 : (M.now == N.now) = true) (t5 : sameLs M.K N.K = true) (t6 : decide (M.D = N.D) = false) :
  Calls Tryz.prog 23 #[.agg (mca M vU vT vK vD), .agg (mca N uU uT uK uD)] w fun e w' => e = .returned (.bool false) ∧ Below w.heap.size w w' := by
 have T0 := aq_ t0
 have T2 := aq_ t2
 have T5 := aq_ t5
 have T6 := aq_ t6
 obtain ⟨⟨AU, cU, rfl, _, hCU⟩, ⟨AT, cT, rfl, _, hCT⟩, ⟨AK, cK, rfl, hLK, hCK⟩, ⟨AD, cD, rfl, _, hCD⟩⟩ := hm
 obtain ⟨⟨BU, dU, rfl, _, hEU⟩, ⟨BT, dT, rfl, _, hET⟩, ⟨BK, dK, rfl, hNK, hEK⟩, ⟨BD, dD, rfl, _, hED⟩⟩ := hn
 have CU := aq_ hCU
 have CT := aq_ hCT
 have CK := aq_ hCK
 have CD := aq_ hCD
 have EU := aq_ hEU
 have ET := aq_ hET
 have EK := aq_ hEK
 have ED := aq_ hED
 have LK := aq_ hLK
 have NK := aq_ hNK
 clear hCU hCT hCK hCD hEU hET hEK hED hLK hNK t0 t2 t5 t6
 unfold mca
 go_enter Tryz.func23, Tryz.ntmps23
 go_upto_region 1 with (fail)
 obtain ⟨W, hW⟩ : ∃ W, W = (w.alloc (.cells #[.slice AU M.U.length cU, .int .i64 M.idle, .slice AT M.T.length cT, .int .i64 M.epoch, .int .i64 M.now, .slice AK M.K.length cK, .slice AD M.D.length cD] 42)).alloc (.cells #[.slice BU N.U.length dU, .int .i64 N.idle, .slice BT N.T.length dT, .int .i64 N.epoch, .int .i64 N.now, .slice BK N.K.length dK, .slice BD N.D.length dD] 42) := ⟨_, rfl⟩
 rw [← hW]
 have G := aq_ (show W.heap[w.heap.size]? = some (.cells #[.slice AU M.U.length cU, .int .i64 M.idle, .slice AT M.T.length cT, .int .i64 M.epoch, .int .i64 M.now, .slice AK M.K.length cK, .slice AD M.D.length cD] 42 (0, 0)) by rw [hW]; exact (two_new w _ _).1)
 have H := aq_ (show W.heap[w.heap.size + 1]? = some (.cells #[.slice BU N.U.length dU, .int .i64 N.idle, .slice BT N.T.length dT, .int .i64 N.epoch, .int .i64 N.now, .slice BK N.K.length dK, .slice BD N.D.length dD] 42 (0, 0)) by rw [hW]; exact (two_new w _ _).2)
 have HB := aq_ (show Below w.heap.size w W by rw [hW]; exact below_alloc (below_alloc (Below.refl _ _) _) _)
 clear hW
 obtain ⟨c0, c1, c2, c3, c4, c5, c6⟩ := (cells7 G.out).1
 obtain ⟨d0, d1, d2, d3, d4, d5, d6⟩ := (cells7 H.out).1
 go_wp2_with (first
  | ((go_at_call 46; (with_reducible refine (usame_any M.U N.U AU BU cU dU _ (Kd.C_below CU.out HB.out) (Kd.C_below EU.out HB.out)).mono ?_)); rw [T0.out]; rintro e w_ ⟨rfl, hb⟩; replace HB := aq_ (below_step HB.out hb); replace G := aq_ (blk_below G.out hb); replace H := aq_ (blk_below H.out hb); clear hb; obtain ⟨c0, c1, c2, c3, c4, c5, c6⟩ := (cells7 G.out).1; obtain ⟨d0, d1, d2, d3, d4, d5, d6⟩ := (cells7 H.out).1)
  | ((go_at_call 47; (with_reducible refine (same_any M.T N.T AT BT cT dT _ (Kd.C_below CT.out HB.out) (Kd.C_below ET.out HB.out)).mono ?_)); rw [T2.out]; rintro e w_ ⟨rfl, hb⟩; replace HB := aq_ (below_step HB.out hb); replace G := aq_ (blk_below G.out hb); replace H := aq_ (blk_below H.out hb); clear hb; obtain ⟨c0, c1, c2, c3, c4, c5, c6⟩ := (cells7 G.out).1; obtain ⟨d0, d1, d2, d3, d4, d5, d6⟩ := (cells7 H.out).1)
  | ((go_at_call 48; (with_reducible refine (know_Same.calls AK cK M.K BK dK N.K _ _ (Kd.C_below CK.out HB.out) LK.out (Kd.C_below EK.out HB.out) NK.out rfl).mono ?_)); rw [T5.out]; rintro e w_ ⟨rfl, hb⟩; replace HB := aq_ (below_step HB.out hb); replace G := aq_ (blk_below G.out hb); replace H := aq_ (blk_below H.out hb); clear hb; obtain ⟨c0, c1, c2, c3, c4, c5, c6⟩ := (cells7 G.out).1; obtain ⟨d0, d1, d2, d3, d4, d5, d6⟩ := (cells7 H.out).1)
  | ((go_at_call 49; (with_reducible refine (deq_any M.D N.D AD BD cD dD _ (Kd.C_below CD.out HB.out) (Kd.C_below ED.out HB.out)).mono ?_)); rw [T6.out]; rintro e w_ ⟨rfl, hb⟩; replace HB := aq_ (below_step HB.out hb); replace G := aq_ (blk_below G.out hb); replace H := aq_ (blk_below H.out hb); clear hb; obtain ⟨c0, c1, c2, c3, c4, c5, c6⟩ := (cells7 G.out).1; obtain ⟨d0, d1, d2, d3, d4, d5, d6⟩ := (cells7 H.out).1))
 go_ret
 exact ⟨rfl, HB.out⟩
set_option maxHeartbeats 4000000 in
theorem sameM_7 (M N : Mdl) (vU vT vK vD uU uT uK uD : Value) (w : World) (hm : MdC w M vU vT vK vD) (hn : MdC w N uU uT uK uD) (t0 : decide (M.U = N.U) = true) (t1 : (M.idle == N.idle) = true) (t2 : decide (M.T = N.T) = true) (t3 : (M.epoch == N.epoch) = true) (t4 : (M.now == N.now) = true) (t5 : sameLs M.K N.K = true) (t6 : decide (M.D = N.D) = true) :
  Calls Tryz.prog 23 #[.agg (mca M vU vT vK vD), .agg (mca N uU uT uK uD)] w fun e w' => e = .returned (.bool true) ∧ Below w.heap.size w w' := by
 have T0 := aq_ t0
 have T2 := aq_ t2
 have T5 := aq_ t5
 have T6 := aq_ t6
 obtain ⟨⟨AU, cU, rfl, _, hCU⟩, ⟨AT, cT, rfl, _, hCT⟩, ⟨AK, cK, rfl, hLK, hCK⟩, ⟨AD, cD, rfl, _, hCD⟩⟩ := hm
 obtain ⟨⟨BU, dU, rfl, _, hEU⟩, ⟨BT, dT, rfl, _, hET⟩, ⟨BK, dK, rfl, hNK, hEK⟩, ⟨BD, dD, rfl, _, hED⟩⟩ := hn
 have CU := aq_ hCU
 have CT := aq_ hCT
 have CK := aq_ hCK
 have CD := aq_ hCD
 have EU := aq_ hEU
 have ET := aq_ hET
 have EK := aq_ hEK
 have ED := aq_ hED
 have LK := aq_ hLK
 have NK := aq_ hNK
 clear hCU hCT hCK hCD hEU hET hEK hED hLK hNK t0 t2 t5 t6
 unfold mca
 go_enter Tryz.func23, Tryz.ntmps23
 go_upto_region 1 with (fail)
 obtain ⟨W, hW⟩ : ∃ W, W = (w.alloc (.cells #[.slice AU M.U.length cU, .int .i64 M.idle, .slice AT M.T.length cT, .int .i64 M.epoch, .int .i64 M.now, .slice AK M.K.length cK, .slice AD M.D.length cD] 42)).alloc (.cells #[.slice BU N.U.length dU, .int .i64 N.idle, .slice BT N.T.length dT, .int .i64 N.epoch, .int .i64 N.now, .slice BK N.K.length dK, .slice BD N.D.length dD] 42) := ⟨_, rfl⟩
 rw [← hW]
 have G := aq_ (show W.heap[w.heap.size]? = some (.cells #[.slice AU M.U.length cU, .int .i64 M.idle, .slice AT M.T.length cT, .int .i64 M.epoch, .int .i64 M.now, .slice AK M.K.length cK, .slice AD M.D.length cD] 42 (0, 0)) by rw [hW]; exact (two_new w _ _).1)
 have H := aq_ (show W.heap[w.heap.size + 1]? = some (.cells #[.slice BU N.U.length dU, .int .i64 N.idle, .slice BT N.T.length dT, .int .i64 N.epoch, .int .i64 N.now, .slice BK N.K.length dK, .slice BD N.D.length dD] 42 (0, 0)) by rw [hW]; exact (two_new w _ _).2)
 have HB := aq_ (show Below w.heap.size w W by rw [hW]; exact below_alloc (below_alloc (Below.refl _ _) _) _)
 clear hW
 obtain ⟨c0, c1, c2, c3, c4, c5, c6⟩ := (cells7 G.out).1
 obtain ⟨d0, d1, d2, d3, d4, d5, d6⟩ := (cells7 H.out).1
 go_wp2_with (first
  | ((go_at_call 46; (with_reducible refine (usame_any M.U N.U AU BU cU dU _ (Kd.C_below CU.out HB.out) (Kd.C_below EU.out HB.out)).mono ?_)); rw [T0.out]; rintro e w_ ⟨rfl, hb⟩; replace HB := aq_ (below_step HB.out hb); replace G := aq_ (blk_below G.out hb); replace H := aq_ (blk_below H.out hb); clear hb; obtain ⟨c0, c1, c2, c3, c4, c5, c6⟩ := (cells7 G.out).1; obtain ⟨d0, d1, d2, d3, d4, d5, d6⟩ := (cells7 H.out).1)
  | ((go_at_call 47; (with_reducible refine (same_any M.T N.T AT BT cT dT _ (Kd.C_below CT.out HB.out) (Kd.C_below ET.out HB.out)).mono ?_)); rw [T2.out]; rintro e w_ ⟨rfl, hb⟩; replace HB := aq_ (below_step HB.out hb); replace G := aq_ (blk_below G.out hb); replace H := aq_ (blk_below H.out hb); clear hb; obtain ⟨c0, c1, c2, c3, c4, c5, c6⟩ := (cells7 G.out).1; obtain ⟨d0, d1, d2, d3, d4, d5, d6⟩ := (cells7 H.out).1)
  | ((go_at_call 48; (with_reducible refine (know_Same.calls AK cK M.K BK dK N.K _ _ (Kd.C_below CK.out HB.out) LK.out (Kd.C_below EK.out HB.out) NK.out rfl).mono ?_)); rw [T5.out]; rintro e w_ ⟨rfl, hb⟩; replace HB := aq_ (below_step HB.out hb); replace G := aq_ (blk_below G.out hb); replace H := aq_ (blk_below H.out hb); clear hb; obtain ⟨c0, c1, c2, c3, c4, c5, c6⟩ := (cells7 G.out).1; obtain ⟨d0, d1, d2, d3, d4, d5, d6⟩ := (cells7 H.out).1)
  | ((go_at_call 49; (with_reducible refine (deq_any M.D N.D AD BD cD dD _ (Kd.C_below CD.out HB.out) (Kd.C_below ED.out HB.out)).mono ?_)); rw [T6.out]; rintro e w_ ⟨rfl, hb⟩; replace HB := aq_ (below_step HB.out hb); replace G := aq_ (blk_below G.out hb); replace H := aq_ (blk_below H.out hb); clear hb; obtain ⟨c0, c1, c2, c3, c4, c5, c6⟩ := (cells7 G.out).1; obtain ⟨d0, d1, d2, d3, d4, d5, d6⟩ := (cells7 H.out).1))
 go_ret
 exact ⟨rfl, HB.out⟩
theorem sameM_any (M N : Mdl) (vU vT vK vD uU uT uK uD : Value) (w : World) (hm : MdC w M vU vT vK vD) (hn : MdC w N uU uT uK uD) :
  Calls Tryz.prog 23 #[.agg (mca M vU vT vK vD), .agg (mca N uU uT uK uD)] w fun e w' => e = .returned (.bool (sameM M N)) ∧ Below w.heap.size w w' := by
 unfold sameM
 cases t0 : decide (M.U = N.U)
 ·exact sameM_0 M N vU vT vK vD uU uT uK uD w hm hn t0
 cases t1 : (M.idle == N.idle)
 ·exact sameM_1 M N vU vT vK vD uU uT uK uD w hm hn t0 t1
 cases t2 : decide (M.T = N.T)
 ·exact sameM_2 M N vU vT vK vD uU uT uK uD w hm hn t0 t1 t2
 cases t3 : (M.epoch == N.epoch)
 ·exact sameM_3 M N vU vT vK vD uU uT uK uD w hm hn t0 t1 t2 t3
 cases t4 : (M.now == N.now)
 ·exact sameM_4 M N vU vT vK vD uU uT uK uD w hm hn t0 t1 t2 t3 t4
 cases t5 : sameLs M.K N.K
 ·exact sameM_5 M N vU vT vK vD uU uT uK uD w hm hn t0 t1 t2 t3 t4 t5
 cases t6 : decide (M.D = N.D)
 ·exact sameM_6 M N vU vT vK vD uU uT uK uD w hm hn t0 t1 t2 t3 t4 t5 t6
 exact sameM_7 M N vU vT vK vD uU uT uK uD w hm hn t0 t1 t2 t3 t4 t5 t6
structure Ac where
 kind : Int
 F : Frm
 X : Ses
 T : S24
def acl (a : Ac) (v : Value) : List Value := .int .i64 a.kind :: (fcl a.F ++ (scl a.X ++ [.int .i64 a.T.f0, .int .i64 a.T.f1, v]))
def aca (a : Ac) (v : Value) : Array Value := (acl a v).toArray
theorem acl_len (a : Ac) (v : Value) : (acl a v).length = 83 := by
 simp only [acl, List.length_cons, List.length_append, fcl_len, scl_len, List.length_nil]
theorem acl_F (a : Ac) (v : Value) (j : Nat) (u : Value) (h : (fcl a.F)[j]? = some u) : (acl a v)[1 + j]? = some u := by
 have hj : j < (fcl a.F).length := (List.getElem?_eq_some_iff.1 h).1
 rw [Nat.add_comm]
 show (fcl a.F ++ _)[j]? = _
 rw [List.getElem?_append_left hj]
 exact h
theorem acl_X (a : Ac) (v : Value) (j : Nat) (u : Value) (h : (scl a.X)[j]? = some u) : (acl a v)[41 + j]? = some u := by
 have hj : j < (scl a.X).length := (List.getElem?_eq_some_iff.1 h).1
 rw [show 41 + j = (40 + j) + 1 by omega]
 show (fcl a.F ++ _)[40 + j]? = _
 rw [List.getElem?_append_right (by rw [fcl_len]; omega), fcl_len, show 40 + j - 40 = j by omega, List.getElem?_append_left hj]
 exact h
theorem acl_T (a : Ac) (v : Value) : (acl a v)[80]? = some (.int .i64 a.T.f0) ∧ (acl a v)[81]? = some (.int .i64 a.T.f1) ∧ (acl a v)[82]? = some v := by
 have h : ∀ j, j < 3 → (acl a v)[80 + j]? = [Value.int .i64 a.T.f0, .int .i64 a.T.f1, v][j]? := fun j hj => by
  rw [show 80 + j = (79 + j) + 1 by omega]
  show (fcl a.F ++ _)[79 + j]? = _
  rw [List.getElem?_append_right (by rw [fcl_len]; omega), fcl_len, show 79 + j - 40 = 39 + j by omega, List.getElem?_append_right (by rw [scl_len]; omega), scl_len, show 39 + j - 39 = j by omega]
 exact ⟨h 0 (by omega), h 1 (by omega), h 2 (by omega)⟩
theorem infoA : (Tryz.prog.info? 38).map (·.size) = some 83 := by kernel_rfl
section
variable {w : World} {g : Nat} {t : TypeId} {a : Ac} {v : Value}
theorem cellsA (h : w.heap[g]? = some (.cells (aca a v) t (0, 0))) : ∀ j u, (acl a v)[j]? = some u → w.cell? ⟨g, j, none⟩ = some u := fun j u hu => by
 rw [blk_cell h j, aca, List.getElem?_toArray]
 exact hu
theorem cellsA_kind (h : w.heap[g]? = some (.cells (aca a v) t (0, 0))) : w.cell? ⟨g, 0, none⟩ = some (.int .i64 a.kind) := cellsA h 0 _ rfl
theorem cellsA_F (h : w.heap[g]? = some (.cells (aca a v) t (0, 0))) : w.cell? ⟨g, 1, none⟩ = some (.int .i64 a.F.kind) ∧ w.cell? ⟨g, 2, none⟩ = some (.int .i64 a.F.user) ∧ w.cell? ⟨g, 3, none⟩ = some (.int .u64 a.F.sess) ∧ w.cell? ⟨g, 4, none⟩ = some (.int .u64 a.F.cn) ∧ w.cell? ⟨g, 5, none⟩ = some (.int .i64 a.F.epoch) ∧ w.cell? ⟨g, 6, none⟩ = some (.int .u64 a.F.count) ∧ w.cell? ⟨g, 7, none⟩ = some (.int .i64 a.F.cmd) ∧ w.cell? ⟨g, 8, none⟩ = some (.int .i64 a.F.arg) := by
 obtain ⟨h0, h1, h2, h3, h4, h5, h6, h7⟩ := fcl_at a.F
 have c := fun j u hu => cellsA h (1 + j) u (acl_F a v j u hu)
 exact ⟨c 0 _ h0, c 1 _ h1, c 2 _ h2, c 3 _ h3, c 4 _ h4, c 5 _ h5, c 6 _ h6, c 7 _ h7⟩
theorem cellsA_X (h : w.heap[g]? = some (.cells (aca a v) t (0, 0))) : w.cell? ⟨g, 41, none⟩ = some (.int .i64 a.X.user) ∧ w.cell? ⟨g, 43, none⟩ = some (.int .u64 a.X.draw) := by
 obtain ⟨h0, h1, h2, h3, h4, h5, h6⟩ := scl_at a.X
 have c := fun j u hu => cellsA h (41 + j) u (acl_X a v j u hu)
 exact ⟨c 0 _ h0, c 2 _ h2⟩
theorem cellsA_T (h : w.heap[g]? = some (.cells (aca a v) t (0, 0))) : w.cell? ⟨g, 80, none⟩ = some (.int .i64 a.T.f0) ∧ w.cell? ⟨g, 81, none⟩ = some (.int .i64 a.T.f1) ∧ w.cell? ⟨g, 82, none⟩ = some v := by
 obtain ⟨h0, h1, h2⟩ := acl_T a v
 exact ⟨cellsA h _ _ h0, cellsA h _ _ h1, cellsA h _ _ h2⟩
theorem boxA_F (h : w.heap[g]? = some (.cells (aca a v) t (0, 0))) : ∀ j u, (fcl a.F)[j]? = some u → w.cell? ((⟨g, 1, none⟩ : Addr).add j) = some u := fun j u hu => by
 have hadd : (⟨g, 1, none⟩ : Addr).add j = ⟨g, 1 + j, none⟩ := by unfold Addr.add; split <;> simp_all
 rw [hadd]
 exact cellsA h _ _ (acl_F a v j u hu)
theorem boxA_X (h : w.heap[g]? = some (.cells (aca a v) t (0, 0))) : ∀ j u, (scl a.X)[j]? = some u → w.cell? ((⟨g, 41, none⟩ : Addr).add j) = some u := fun j u hu => by
 have hadd : (⟨g, 41, none⟩ : Addr).add j = ⟨g, 41 + j, none⟩ := by unfold Addr.add; split <;> simp_all
 rw [hadd]
 exact cellsA h _ _ (acl_X a v j u hu)
theorem boxA (h : w.heap[g]? = some (.cells (aca a v) t (0, 0))) : ∀ j u, (acl a v)[j]? = some u → w.cell? ((⟨g, 0, none⟩ : Addr).add j) = some u := fun j u hu => by
 have hadd : (⟨g, 0, none⟩ : Addr).add j = ⟨g, j, none⟩ := by unfold Addr.add; split <;> simp_all
 rw [hadd]
 exact cellsA h _ _ hu
end
section
variable {ops : Array Oper} {rest : List Oper} {o : Oper} {a : Act} {w : World} {Q : Exit → Act → World → Prop}
theorem run_boxA (w : World) (x : Ac) (v : Value) : (Instr.box 38 (.agg (aca x v))).run Tryz.prog w = .ok (.pointer (some ⟨w.heap.size, 0, none⟩)) (w.alloc (.cells (aca x v) 38)) := by kernel_rfl
theorem box_Ac (y : Operand) {x : Ac} {v : Value} (ho : o.op = .box 38 y) (hgd : o.guard = none) (hx : a.eval y = .agg (aca x v)) (h : ∀ g, g = w.heap.size → ∀ w1 : World, w1.heap[g]? = some (.cells (aca x v) 38 (0, 0)) → Below w.heap.size w w1 → wpList Tryz.prog ops Q rest (a.put o.dst (.pointer (some ⟨g, 0, none⟩))) w1) : wpList Tryz.prog ops Q (o :: rest) a w := by
 refine Kd.event_run hgd (v := .pointer (some ⟨w.heap.size, 0, none⟩)) ?_ (h _ rfl (w.alloc (.cells (aca x v) 38)) (blk_new w _) (below_alloc (Below.refl _ _) _))
 unfold execOp
 simp only [ho, hx, Sem.run_bind, run_boxA, Result.andThen_ok, Sem.run_pure]
theorem run_loadA {p : Addr} {x : Ac} {v : Value} (hc : ∀ j u, (acl x v)[j]? = some u → w.cell? (p.add j) = some u) : (loadVar 38 p).run Tryz.prog w = .ok (.agg (aca x v)) w := by
 have hl := run_loadCells_list (P := Tryz.prog) w p (acl x v) hc
 rw [acl_len] at hl
 have hi := infoA
 cases hq : Tryz.prog.info? 38 with
 | none => rw [hq] at hi; simp at hi
 | some i =>
  have hs : i.size = 83 := by simpa [hq] using hi
  have hagg : (isAgg 38).run Tryz.prog w = .ok true w := by
   unfold isAgg
   rw [Sem.run_bind, run_underlying Tryz.underlying38 w]
   simp
  simp [loadVar, Sem.run_bind, hagg, sizeOf, typeInfo, hq, hs, hl, aca]
theorem load_Ac (y : Operand) (ho : o.op = .load 38 y) (hgd : o.guard = none) {p : Addr} (hy : a.eval y = .pointer (some p)) {x : Ac} {v : Value} (hc : ∀ j u, (acl x v)[j]? = some u → w.cell? (p.add j) = some u)
  (h : wpList Tryz.prog ops Q rest (a.put o.dst (.agg (aca x v))) w) : wpList Tryz.prog ops Q (o :: rest) a w := by
 refine Kd.event_run hgd (v := .agg (aca x v)) ?_ h
 unfold execOp
 simp only [ho, hy, Instr.loadAt, Instr.sureAddr, Sem.run_bind, Sem.run_pure, Result.andThen_ok, run_loadA hc]
end
def MBox (w : World) (base g : Nat) (rb : Nat → Prop) (M : Mdl) (vU vT vK vD : Value) : Prop := w.heap[g]? = some (.cells (mca M vU vT vK vD) 42 (0, 0)) ∧ base ≤ g ∧ ∃ PU PT PK PD : Nat → Prop, Kd.V kU 67 w 0 PU vU M.U ∧ Kd.V kS 33 w 0 PT vT M.T ∧ Kd.N k24 36 w base PK vK M.K ∧ Kd.R kD 48 w base PD vD M.D ∧
 (∀ k, vK.ownBlock = some k → ¬ PU k ∧ ¬ PT k ∧ ¬ PD k) ∧ (∀ k, vD.ownBlock = some k → ¬ PU k ∧ ¬ PT k ∧ ¬ PK k) ∧ ¬ PU g ∧ ¬ PT g ∧ ¬ PK g ∧ ¬ PD g ∧ (∀ k, rb k → k < base ∧ ¬ PU k ∧ ¬ PT k ∧ ¬ PK k ∧ ¬ PD k)
theorem mbox_of {w w1 : World} {base g : Nat} {rb : Nat → Prop} {M : Mdl} {vU vT vK vD : Value} (h : OwnM w base rb M vU vT vK vD) (hb : Below w.heap.size w w1) (hg : w.heap.size ≤ g) (hbase : base ≤ w.heap.size) (hc : w1.heap[g]? = some (.cells (mca M vU vT vK vD) 42 (0, 0))) : MBox w1 base g rb M vU vT vK vD := by
 obtain ⟨PU, PT, PK, PD, h1, h2, h3, h4, h5, h6, h7⟩ := h
 refine ⟨hc, Nat.le_trans hbase hg, fun k => PU k ∧ k < w.heap.size, fun k => PT k ∧ k < w.heap.size, fun k => PK k ∧ k < w.heap.size, fun k => PD k ∧ k < w.heap.size, Kd.V_below (Kd.V_bound h1) hb, Kd.V_below (Kd.V_bound h2) hb, Kd.N_below (Kd.N_bound h3) hb, Kd.R_below (Kd.R_mono (Kd.R_bound h4) fun k hk => ⟨hk.1, hk.2.2.1⟩) hb, fun k hk => ?_, fun k hk => ?_, fun hp => ?_, fun hp => ?_, fun hp => ?_, fun hp => ?_, fun k hk => ⟨(h7 k hk).1, fun h => (h7 k hk).2.1 h.1, fun h => (h7 k hk).2.2.1 h.1, fun h => (h7 k hk).2.2.2.1 h.1, fun h => (h7 k hk).2.2.2.2 h.1⟩⟩
 ·obtain ⟨a, b, c⟩ := h5 k hk
  exact ⟨fun h => a h.1, fun h => b h.1, fun h => c h.1⟩
 ·obtain ⟨a, b, c⟩ := h6 k hk
  exact ⟨fun h => a h.1, fun h => b h.1, fun h => c h.1⟩
 all_goals (have := hp.2; omega)
theorem mbox_mdo {w : World} {base g : Nat} {rb : Nat → Prop} {M : Mdl} {vU vT vK vD : Value} (h : MBox w base g rb M vU vT vK vD) : MdO w rb M vU vT vK vD := by
 obtain ⟨_, _, PU, PT, PK, PD, h1, h2, h3, h4, _, _, _, _, _, _, nr⟩ := h
 exact ⟨Kd.V_mono h1 fun k hk e => (nr k e).2.1 hk, Kd.V_mono h2 fun k hk e => (nr k e).2.2.1 hk, Kd.V_mono (Kd.N_V (base' := 0) h3) fun k hk e => (nr k e).2.2.2.1 hk, Kd.V_mono (Kd.R_V (base' := 0) h4) fun k hk e => (nr k e).2.2.2.2 hk⟩
theorem mbox_told {w : World} {base g : Nat} {rb : Nat → Prop} {M : Mdl} {vU vT vK vD : Value} (h : MBox w base g rb M vU vT vK vD) : MdC w M vU vT vK vD := by
 obtain ⟨_, _, PU, PT, PK, PD, h1, h2, h3, h4, _⟩ := h
 exact ⟨told_V h1, told_V h2, told_V (Kd.N_V (base' := 0) h3), by obtain ⟨A, c, e, hc, hC⟩ := Kd.R_reads h4; exact ⟨A, c, e, hc, hC⟩⟩
theorem mbox_below {w w1 : World} {base g : Nat} {rb : Nat → Prop} {M : Mdl} {vU vT vK vD : Value} (h : MBox w base g rb M vU vT vK vD) (hb : Below w.heap.size w w1) : MBox w1 base g rb M vU vT vK vD := by
 obtain ⟨h0, h00, PU, PT, PK, PD, h1, h2, h3, h4, h5⟩ := h
 exact ⟨blk_below h0 hb, h00, PU, PT, PK, PD, Kd.V_below h1 hb, Kd.V_below h2 hb, Kd.N_below h3 hb, Kd.R_below h4 hb, h5⟩
theorem mbox_setT {w : World} {base g : Nat} {rb : Nat → Prop} {M : Mdl} {vU vT vK vD : Value} (h : MBox w base g rb M vU vT vK vD) {T' : List Ses} {vT' : Value} {P : Nat → Prop} (hT : Kd.V kS 33 w 0 P vT' T') (hP : ∀ k, P k → k ≠ g ∧ vK.ownBlock ≠ some k ∧ vD.ownBlock ≠ some k ∧ ¬ rb k) : MBox (w.setCell ⟨g, 2, none⟩ vT') base g rb { M with T := T' } vU vT' vK vD := by
 obtain ⟨h0, h00, PU, PT, PK, PD, h1, h2, h3, h4, h5, h6, n1, n2, n3, n4, nr⟩ := h
 have far : ∀ k, k ≠ g → (w.setCell ⟨g, 2, none⟩ vT').heap[k]? = w.heap[k]? := fun k hk => Below.heap_setCell _ _ _ _ hk
 exact ⟨blk_put h0 2 vT' rfl, h00, PU, P, PK, PD, Kd.V_step h1 (fun k hk _ => far k fun e => n1 (e ▸ hk)), Kd.V_step hT (fun k hk _ => far k (hP k hk).1), Kd.N_step h3 (fun k hk _ => far k fun e => n3 (e ▸ hk)), Kd.R_step h4 (fun k hk _ => far k fun e => n4 (e ▸ hk)),
  fun k hk => ⟨(h5 k hk).1, fun hp => (hP k hp).2.1 hk, (h5 k hk).2.2⟩, fun k hk => ⟨(h6 k hk).1, fun hp => (hP k hp).2.2.1 hk, (h6 k hk).2.2⟩, n1, fun hp => (hP g hp).1 rfl, n3, n4, fun k hk => ⟨(nr k hk).1, (nr k hk).2.1, fun hp => (hP k hp).2.2.2 hk, (nr k hk).2.2.2⟩⟩
end Go.Proofs.YtdinphnljokigaaGreat.P
end
