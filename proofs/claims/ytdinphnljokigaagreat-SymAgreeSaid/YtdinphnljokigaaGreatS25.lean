/- What LawSymAgree rests on, part 25: several texts put together. -/
import Derived.Test.YtdinphnljokigaaGreatS24
import Derived.Test.YtdinphnljokigaaGreatS7
import Derived.Test.YtdinphnljokigaaGreatS3
set_option linter.unusedVariables false
set_option linter.unnecessarySimpa false
set_option linter.unusedSimpArgs false
set_option maxRecDepth 100000
section
namespace Go.Proofs.YtdinphnljokigaaGreat.P
open Go.RowKit Go.Lib Go.Proofs.YtdinphnljokigaaGreatW.PrintWords Go.Proofs.YtdinphnljokigaaGreatW.PrintLast Go.Proofs.YtdinphnljokigaaGreatW.PrintMore
def mineB (M : Mdl) (x : Ses) : Bool := (findU M.U x.user != -1) && ((x.epoch == M.epoch) && hasS x)
set_option maxHeartbeats 1000000 in
theorem mine_any (M : Mdl) (x : Ses) (vU vT vK vD : Value) (g : Nat) (w : World) (hU : Told kU w vU M.U) (hg : w.heap[g]? = some (.cells (mca M vU vT vK vD) 42 (0, 0))) :
  Calls Tryz.prog 40 #[.agg (sca x), .pointer (some ⟨g, 0, none⟩)] w fun e w' => e = .returned (.bool (mineB M x)) ∧ Below w.heap.size w w' := by
 obtain ⟨AU, cU, rfl, _, hC⟩ := hU
 have HC := aq_ hC
 have HG := aq_ hg
 have HB := aq_ (Below.refl w.heap.size w)
 clear hC hg
 unfold mineB
 cases t0 : (findU M.U x.user != -1)
 ·have T0 := aq_ t0
  clear t0
  go_enter Tryz.func40, Tryz.ntmps40
  go_upto_region 1 with (with_reducible refine box_Se (.tmp 0) (s := x) rfl rfl rfl ?_; intro gx hg w1 hbox hb; have HB1 := aq_ (below_step HB.out hb); have X1 := aq_ hbox; have G1 := aq_ (blk_below HG.out hb); clear hg hbox hb)
  obtain ⟨c0, c1, c2, c3, c4, c5, c6⟩ := (cells7 G1.out).1
  obtain ⟨x0, x1, x2, x3, _⟩ := cellsS X1.out
  go_wp2_with (go_at_call 34; (with_reducible refine (ufind_any M.U AU cU x.user _ (Kd.C_below HC.out HB1.out)).mono ?_); rintro e w2 ⟨rfl, hb⟩; have HB2 := aq_ (below_step HB1.out hb); have ht := T0.out; clear hb)
  go_ret
  exact ⟨rfl, HB2.out⟩
 ·have T0 := aq_ t0
  clear t0
  cases t1 : (x.epoch == M.epoch)
  ·go_enter Tryz.func40, Tryz.ntmps40
   go_upto_region 1 with (with_reducible refine box_Se (.tmp 0) (s := x) rfl rfl rfl ?_; intro gx hg w1 hbox hb; have HB1 := aq_ (below_step HB.out hb); have X1 := aq_ hbox; have G1 := aq_ (blk_below HG.out hb); clear hg hbox hb)
   obtain ⟨c0, c1, c2, c3, c4, c5, c6⟩ := (cells7 G1.out).1
   obtain ⟨x0, x1, x2, x3, _⟩ := cellsS X1.out
   go_wp2_with (go_at_call 34; (with_reducible refine (ufind_any M.U AU cU x.user _ (Kd.C_below HC.out HB1.out)).mono ?_); rintro e w2 ⟨rfl, hb⟩; have HB2 := aq_ (below_step HB1.out hb); have ht := T0.out; obtain ⟨c0, c1, c2, c3, c4, c5, c6⟩ := (cells7 (blk_below G1.out hb)).1; obtain ⟨x0, x1, x2, x3, _⟩ := cellsS (blk_below X1.out hb); clear hb)
   go_ret
   exact ⟨rfl, HB2.out⟩
  ·go_enter Tryz.func40, Tryz.ntmps40
   go_upto_region 1 with (with_reducible refine box_Se (.tmp 0) (s := x) rfl rfl rfl ?_; intro gx hg w1 hbox hb; have HB1 := aq_ (below_step HB.out hb); have X1 := aq_ hbox; have G1 := aq_ (blk_below HG.out hb); clear hg hbox hb)
   obtain ⟨c0, c1, c2, c3, c4, c5, c6⟩ := (cells7 G1.out).1
   obtain ⟨x0, x1, x2, x3, _⟩ := cellsS X1.out
   go_wp2_with (first
    | (go_at_call 34; (with_reducible refine (ufind_any M.U AU cU x.user _ (Kd.C_below HC.out HB1.out)).mono ?_); rintro e w2 ⟨rfl, hb⟩; have HB2 := aq_ (below_step HB1.out hb); have ht := T0.out; have X2 := aq_ (blk_below X1.out hb); obtain ⟨c0, c1, c2, c3, c4, c5, c6⟩ := (cells7 (blk_below G1.out hb)).1; obtain ⟨x0, x1, x2, x3, _⟩ := cellsS X2.out; clear hb)
    | ((with_reducible refine gate_dst (N := 18) rfl ?_); (refine gate_guard (by rfl) ?_; dsimp only); (with_reducible refine load_S (.tmp 2) rfl rfl (p := ⟨gx, 0, none⟩) rfl (cells_box X2.out) ?_))
    | (go_at_call 39; (with_reducible refine (has_any x _).mono ?_); rintro e w3 ⟨rfl, hb⟩; have HB3 := aq_ (below_step HB2.out hb); clear hb))
   go_ret
   exact ⟨rfl, HB3.out⟩
theorem bad_any (M : Mdl) (x : Ses) (vU vT vK vD : Value) (g h : Nat) (w : World) (hU : Told kU w vU M.U) (hg : w.heap[g]? = some (.cells (mca M vU vT vK vD) 42 (0, 0))) (hh : w.heap[h]? = some (.cells #[.func (.func 40) #[] #[.pointer (some ⟨g, 0, none⟩)]] 85 (0, 0))) :
  Calls Tryz.prog 41 #[.agg (sca x), .pointer (some ⟨h, 0, none⟩)] w fun e w' => e = .returned (.bool (!mineB M x)) ∧ Below w.heap.size w w' := by
 have HU := aq_ hU
 have HG := aq_ hg
 have HH := aq_ hh
 have HB := aq_ (Below.refl w.heap.size w)
 clear hU hg hh
 go_enter Tryz.func41, Tryz.ntmps41
 go_upto_region 1 with ((with_reducible refine box_Se (.tmp 0) (s := x) rfl rfl rfl ?_); intro gx hg w1 hbox hb; have HB1 := aq_ (below_step HB.out hb); have X1 := aq_ hbox; have HU1 := aq_ (told_belowG HU.out hb); have G1 := aq_ (blk_below HG.out hb); have c0 : w1.cell? ⟨h, 0, none⟩ = some (.func (.func 40) #[] #[.pointer (some ⟨g, 0, none⟩)]) := blk_cell (blk_below HH.out hb) 0; clear hg hbox hb)
 go_wp2_with (first
  | (with_reducible refine load_S (.tmp 2) rfl rfl (p := ⟨gx, 0, none⟩) rfl (cells_box X1.out) ?_)
  | (go_at_call 40; (with_reducible refine (mine_any M x vU vT vK vD g _ HU1.out G1.out).mono ?_); rintro e w2 ⟨rfl, hb⟩; have HB2 := aq_ (below_step HB1.out hb); clear hb))
 go_ret
 exact ⟨rfl, HB2.out⟩
set_option maxHeartbeats 1000000 in
theorem index_bad (M : Mdl) (vU vT vK vD : Value) (g h : Nat) (l : List Ses) (A : Option Addr) (c : Nat) (W : World) (hr : Kd.C kS W A l.length l) (hU : Told kU W vU M.U) (hg0 : W.heap[g]? = some (.cells (mca M vU vT vK vD) 42 (0, 0))) (hh : W.heap[h]? = some (.cells #[.func (.func 40) #[] #[.pointer (some ⟨g, 0, none⟩)]] 85 (0, 0))) :
  Calls Tryz.prog 74 #[.slice A l.length c, .func (.func 41) #[] #[.pointer (some ⟨h, 0, none⟩)]] W fun e w' => e = .returned (.int .i64 (idxS (fun x => !mineB M x) l)) ∧ Below W.heap.size W w' := by
 have hml : l.length ≤ 9223372036854775807 := hr.2.1
 have HC := aq_ hr
 have HB := aq_ (Below.refl W.heap.size W)
 have HU := aq_ hU
 have HG0 := aq_ hg0
 have HH := aq_ hh
 clear hr hU hg0 hh
 obtain ⟨g', hg⟩ : ∃ g : Ses → Bool, g = fun x => !mineB M x := ⟨_, rfl⟩
 rw [← hg]
 have HG := aq_ hg
 clear hg
 go_enter Tryz.func74, Tryz.ntmps74
 go_wp2
 go_loopw [8] (fun v8 wr => ∃ i : Nat, i ≤ l.length ∧ v8 = .int .i64 i ∧ Aside0 (∀ x ∈ l.take i, g' x = false) ∧ Aside0 (Below W.heap.size W wr)) (fun v8 _ => l.length - (intOf v8).toNat)
 case atStart => exact ⟨0, by omega, rfl, ⟨by simp⟩, HB⟩
 case round =>
  clear HB
  obtain ⟨i, hi, rfl, HS, HB⟩ := hrel
  by_cases hlt : i < l.length
  ·obtain ⟨y, hy⟩ : ∃ y, l[i]? = some y := ⟨_, List.getElem?_eq_getElem hlt⟩
   obtain ⟨ad, e0, hc, _⟩ := at_S (Kd.C_below HC.out HB.out) i hlt y hy
   subst e0
   have HA := aq_ (fun h => idxS_at g' hy HS.out h)
   have HN := aq_ (fun h => takeS_all (p := g') hy HS.out h)
   have HX := aq_ hc
   clear hy hc
   cases hs : g' y with
   | true =>
    have HT := aq_ hs
    have HI := aq_ (HA.out hs)
    clear hs
    go_wp2_with (first
     | (with_reducible refine load_S (.tmp 14) rfl rfl (p := ad.add (i * 39)) rfl HX.out ?_)
     | (go_at_call 41; (with_reducible refine (bad_any M y vU vT vK vD g h _ (told_belowG HU.out HB.out) (blk_below HG0.out HB.out) (blk_below HH.out HB.out)).mono ?_); rw [← congrFun HG.out y, HT.out]; rintro e w1 ⟨rfl, hb⟩; have HB := aq_ (below_step HB.out hb); clear hb))
    go_ret
    exact ⟨by rw [HI.out]; rfl, HB.out⟩
   | false =>
    have HT := aq_ hs
    have HI := aq_ (HN.out hs)
    clear hs
    go_wp2_with (first
     | (with_reducible refine load_S (.tmp 14) rfl rfl (p := ad.add (i * 39)) rfl HX.out ?_)
     | (go_at_call 41; (with_reducible refine (bad_any M y vU vT vK vD g h _ (told_belowG HU.out HB.out) (blk_below HG0.out HB.out) (blk_below HH.out HB.out)).mono ?_); rw [← congrFun HG.out y, HT.out]; rintro e w1 ⟨rfl, hb⟩; have HB := aq_ (below_step HB.out hb); clear hb))
    go_roundw
    case rel => exact ⟨i + 1, by omega, by go_num, HI, HB⟩
    case measure => simp [intOf]; omega
  ·obtain rfl : i = l.length := by omega
   go_wp2
   go_ret
   refine ⟨?_, HB.out⟩
   have := HS.out
   rw [List.take_length] at this
   rw [idxS_none _ this]
   rfl
theorem idx_any (p : Ses → Bool) : ∀ l : List Ses, decide (0 ≤ idxS p l) = l.any p
 | [] => by simp [idxS]
 | x :: l => by
  have := idxS_ge p l
  have ih := idx_any p l
  rw [List.any_cons, ← ih, idxS]
  cases h : p x
  ·rw [if_neg (by decide), Bool.false_or, decide_eq_decide]
   split <;> omega
  ·rw [if_pos rfl]
   rfl
theorem cont_bad (M : Mdl) (vU vT vK vD : Value) (g h : Nat) (l : List Ses) (A : Option Addr) (c : Nat) (W : World) (hr : Kd.C kS W A l.length l) (hU : Told kU W vU M.U) (hg0 : W.heap[g]? = some (.cells (mca M vU vT vK vD) 42 (0, 0))) (hh : W.heap[h]? = some (.cells #[.func (.func 40) #[] #[.pointer (some ⟨g, 0, none⟩)]] 85 (0, 0))) :
  Calls Tryz.prog 45 #[.slice A l.length c, .func (.func 41) #[] #[.pointer (some ⟨h, 0, none⟩)]] W fun e w' => e = .returned (.bool (l.any fun x => !mineB M x)) ∧ Below W.heap.size W w' := by
 have HC := aq_ (index_bad M vU vT vK vD g h l A c W hr hU hg0 hh)
 have he := idx_any (fun x => !mineB M x) l
 obtain ⟨p, hp⟩ : ∃ p, p = fun x => !mineB M x := ⟨_, rfl⟩
 rw [← hp] at HC he ⊢
 have HE := aq_ he
 clear hr hU hg0 hh hp he
 rw [← HE.out]
 go_enter Tryz.func45, Tryz.ntmps45
 go_wp2_with (go_at_call 74; (with_reducible refine HC.out.mono ?_); rintro e w1 ⟨rfl, hb⟩; have HB := aq_ hb; clear hb)
 go_ret
 exact ⟨rfl, HB.out⟩
def mayM (M : Mdl) : Bool := mayU M.U && (inB M.idle 1 1048576 && (mayS M.T && ((!M.T.any fun x => !mineB M x) && (inB M.epoch 0 1073741824 && (inB M.now 0 1073741824 && mayL M.K)))))
set_option maxHeartbeats 4000000 in
theorem mayM_0 (M : Mdl) (vU vT vK vD : Value) (w : World) (hm : MdC w M vU vT vK vD) (t0 : mayU M.U = false) :
  Calls Tryz.prog 22 #[.agg (mca M vU vT vK vD)] w fun e w' => e = .returned (.bool false) ∧ Below w.heap.size w w' := by
 have T0 := aq_ t0
 obtain ⟨hU, hT, hK, _⟩ := hm
 have TU := aq_ hU
 obtain ⟨AU, cU, rfl, _, hCU⟩ := hU
 obtain ⟨AT, cT, rfl, hLT, hCT⟩ := hT
 obtain ⟨AK, cK, rfl, hLK, hCK⟩ := hK
 have CU := aq_ hCU
 have CT := aq_ hCT
 have CK := aq_ hCK
 have LT := aq_ hLT
 have LK := aq_ hLK
 clear hCU hCT hCK hLT hLK t0
 unfold mca
 go_enter Tryz.func22, Tryz.ntmps22
 go_upto_region 3 with (fail)
 obtain ⟨W, hW⟩ : ∃ W, W = (w.alloc (.cells #[.slice AU M.U.length cU, .int .i64 M.idle, .slice AT M.T.length cT, .int .i64 M.epoch, .int .i64 M.now, .slice AK M.K.length cK, vD] 42)).alloc (.cells #[.func (.func 40) #[] #[.pointer (some ⟨w.heap.size, 0, none⟩)]] 85) := ⟨_, rfl⟩
 rw [← hW]
 have G := aq_ (show W.heap[w.heap.size]? = some (.cells (mca M (.slice AU M.U.length cU) (.slice AT M.T.length cT) (.slice AK M.K.length cK) vD) 42 (0, 0)) by rw [hW]; exact (two_new w _ _).1)
 have H := aq_ (show W.heap[w.heap.size + 1]? = some (.cells #[.func (.func 40) #[] #[.pointer (some ⟨w.heap.size, 0, none⟩)]] 85 (0, 0)) by rw [hW]; exact (two_new w _ _).2)
 have HB := aq_ (show Below w.heap.size w W by rw [hW]; exact below_alloc (below_alloc (Below.refl _ _) _) _)
 clear hW
 obtain ⟨c0, c1, c2, c3, c4, c5, c6⟩ := (cells7 G.out).1
 go_wp2_with (first
  | (go_at_call 42; (with_reducible refine (umay_any M.U AU cU _ (Kd.C_below CU.out HB.out)).mono ?_); rw [T0.out]; rintro e w_ ⟨rfl, hb⟩; replace HB := aq_ (below_step HB.out hb); replace G := aq_ (blk_below G.out hb); replace H := aq_ (blk_below H.out hb); clear hb; obtain ⟨c0, c1, c2, c3, c4, c5, c6⟩ := (cells7 G.out).1))
 go_ret
 exact ⟨rfl, HB.out⟩
set_option maxHeartbeats 4000000 in
theorem mayM_1 (M : Mdl) (vU vT vK vD : Value) (w : World) (hm : MdC w M vU vT vK vD) (t0 : mayU M.U = true) (t1 : inB M.idle 1 1048576 = false) :
  Calls Tryz.prog 22 #[.agg (mca M vU vT vK vD)] w fun e w' => e = .returned (.bool false) ∧ Below w.heap.size w w' := by
 have T0 := aq_ t0
 have T1 := aq_ t1
 obtain ⟨hU, hT, hK, _⟩ := hm
 have TU := aq_ hU
 obtain ⟨AU, cU, rfl, _, hCU⟩ := hU
 obtain ⟨AT, cT, rfl, hLT, hCT⟩ := hT
 obtain ⟨AK, cK, rfl, hLK, hCK⟩ := hK
 have CU := aq_ hCU
 have CT := aq_ hCT
 have CK := aq_ hCK
 have LT := aq_ hLT
 have LK := aq_ hLK
 clear hCU hCT hCK hLT hLK t0 t1
 unfold mca
 go_enter Tryz.func22, Tryz.ntmps22
 go_upto_region 3 with (fail)
 obtain ⟨W, hW⟩ : ∃ W, W = (w.alloc (.cells #[.slice AU M.U.length cU, .int .i64 M.idle, .slice AT M.T.length cT, .int .i64 M.epoch, .int .i64 M.now, .slice AK M.K.length cK, vD] 42)).alloc (.cells #[.func (.func 40) #[] #[.pointer (some ⟨w.heap.size, 0, none⟩)]] 85) := ⟨_, rfl⟩
 rw [← hW]
 have G := aq_ (show W.heap[w.heap.size]? = some (.cells (mca M (.slice AU M.U.length cU) (.slice AT M.T.length cT) (.slice AK M.K.length cK) vD) 42 (0, 0)) by rw [hW]; exact (two_new w _ _).1)
 have H := aq_ (show W.heap[w.heap.size + 1]? = some (.cells #[.func (.func 40) #[] #[.pointer (some ⟨w.heap.size, 0, none⟩)]] 85 (0, 0)) by rw [hW]; exact (two_new w _ _).2)
 have HB := aq_ (show Below w.heap.size w W by rw [hW]; exact below_alloc (below_alloc (Below.refl _ _) _) _)
 clear hW
 obtain ⟨c0, c1, c2, c3, c4, c5, c6⟩ := (cells7 G.out).1
 go_wp2_with (first
  | (go_at_call 42; (with_reducible refine (umay_any M.U AU cU _ (Kd.C_below CU.out HB.out)).mono ?_); rw [T0.out]; rintro e w_ ⟨rfl, hb⟩; replace HB := aq_ (below_step HB.out hb); replace G := aq_ (blk_below G.out hb); replace H := aq_ (blk_below H.out hb); clear hb; obtain ⟨c0, c1, c2, c3, c4, c5, c6⟩ := (cells7 G.out).1)
  | (go_at_call 43; (with_reducible refine (sin_any M.idle 1 1048576 _).mono ?_); rw [T1.out]; rintro e w_ ⟨rfl, rfl⟩))
 go_ret
 exact ⟨rfl, HB.out⟩
set_option maxHeartbeats 4000000 in
theorem mayM_2 (M : Mdl) (vU vT vK vD : Value) (w : World) (hm : MdC w M vU vT vK vD) (t0 : mayU M.U = true) (t1 : inB M.idle 1 1048576 = true) (t2 : mayS M.T = false) :
  Calls Tryz.prog 22 #[.agg (mca M vU vT vK vD)] w fun e w' => e = .returned (.bool false) ∧ Below w.heap.size w w' := by
 have T0 := aq_ t0
 have T1 := aq_ t1
 have T2 := aq_ t2
 obtain ⟨hU, hT, hK, _⟩ := hm
 have TU := aq_ hU
 obtain ⟨AU, cU, rfl, _, hCU⟩ := hU
 obtain ⟨AT, cT, rfl, hLT, hCT⟩ := hT
 obtain ⟨AK, cK, rfl, hLK, hCK⟩ := hK
 have CU := aq_ hCU
 have CT := aq_ hCT
 have CK := aq_ hCK
 have LT := aq_ hLT
 have LK := aq_ hLK
 clear hCU hCT hCK hLT hLK t0 t1 t2
 unfold mca
 go_enter Tryz.func22, Tryz.ntmps22
 go_upto_region 3 with (fail)
 obtain ⟨W, hW⟩ : ∃ W, W = (w.alloc (.cells #[.slice AU M.U.length cU, .int .i64 M.idle, .slice AT M.T.length cT, .int .i64 M.epoch, .int .i64 M.now, .slice AK M.K.length cK, vD] 42)).alloc (.cells #[.func (.func 40) #[] #[.pointer (some ⟨w.heap.size, 0, none⟩)]] 85) := ⟨_, rfl⟩
 rw [← hW]
 have G := aq_ (show W.heap[w.heap.size]? = some (.cells (mca M (.slice AU M.U.length cU) (.slice AT M.T.length cT) (.slice AK M.K.length cK) vD) 42 (0, 0)) by rw [hW]; exact (two_new w _ _).1)
 have H := aq_ (show W.heap[w.heap.size + 1]? = some (.cells #[.func (.func 40) #[] #[.pointer (some ⟨w.heap.size, 0, none⟩)]] 85 (0, 0)) by rw [hW]; exact (two_new w _ _).2)
 have HB := aq_ (show Below w.heap.size w W by rw [hW]; exact below_alloc (below_alloc (Below.refl _ _) _) _)
 clear hW
 obtain ⟨c0, c1, c2, c3, c4, c5, c6⟩ := (cells7 G.out).1
 go_wp2_with (first
  | (go_at_call 42; (with_reducible refine (umay_any M.U AU cU _ (Kd.C_below CU.out HB.out)).mono ?_); rw [T0.out]; rintro e w_ ⟨rfl, hb⟩; replace HB := aq_ (below_step HB.out hb); replace G := aq_ (blk_below G.out hb); replace H := aq_ (blk_below H.out hb); clear hb; obtain ⟨c0, c1, c2, c3, c4, c5, c6⟩ := (cells7 G.out).1)
  | (go_at_call 43; (with_reducible refine (sin_any M.idle 1 1048576 _).mono ?_); rw [T1.out]; rintro e w_ ⟨rfl, rfl⟩)
  | (go_at_call 44; (with_reducible refine (mayL_any M.T AT cT _ (Kd.C_below CT.out HB.out) LT.out).mono ?_); rw [T2.out]; rintro e w_ ⟨rfl, hb⟩; replace HB := aq_ (below_step HB.out hb); replace G := aq_ (blk_below G.out hb); replace H := aq_ (blk_below H.out hb); clear hb; obtain ⟨c0, c1, c2, c3, c4, c5, c6⟩ := (cells7 G.out).1))
 go_ret
 exact ⟨rfl, HB.out⟩
set_option maxHeartbeats 4000000 in
theorem mayM_3 (M : Mdl) (vU vT vK vD : Value) (w : World) (hm : MdC w M vU vT vK vD) (t0 : mayU M.U = true) (t1 : inB M.idle 1 1048576 = true) (t2 : mayS M.T = true) (t3 : (M.T.any fun x => !mineB M x) = true) :
  Calls Tryz.prog 22 #[.agg (mca M vU vT vK vD)] w fun e w' => e = .returned (.bool false) ∧ Below w.heap.size w w' := by
 have T0 := aq_ t0
 have T1 := aq_ t1
 have T2 := aq_ t2
 have T3 := aq_ t3
 obtain ⟨hU, hT, hK, _⟩ := hm
 have TU := aq_ hU
 obtain ⟨AU, cU, rfl, _, hCU⟩ := hU
 obtain ⟨AT, cT, rfl, hLT, hCT⟩ := hT
 obtain ⟨AK, cK, rfl, hLK, hCK⟩ := hK
 have CU := aq_ hCU
 have CT := aq_ hCT
 have CK := aq_ hCK
 have LT := aq_ hLT
 have LK := aq_ hLK
 clear hCU hCT hCK hLT hLK t0 t1 t2 t3
 unfold mca
 go_enter Tryz.func22, Tryz.ntmps22
 go_upto_region 3 with (fail)
 obtain ⟨W, hW⟩ : ∃ W, W = (w.alloc (.cells #[.slice AU M.U.length cU, .int .i64 M.idle, .slice AT M.T.length cT, .int .i64 M.epoch, .int .i64 M.now, .slice AK M.K.length cK, vD] 42)).alloc (.cells #[.func (.func 40) #[] #[.pointer (some ⟨w.heap.size, 0, none⟩)]] 85) := ⟨_, rfl⟩
 rw [← hW]
 have G := aq_ (show W.heap[w.heap.size]? = some (.cells (mca M (.slice AU M.U.length cU) (.slice AT M.T.length cT) (.slice AK M.K.length cK) vD) 42 (0, 0)) by rw [hW]; exact (two_new w _ _).1)
 have H := aq_ (show W.heap[w.heap.size + 1]? = some (.cells #[.func (.func 40) #[] #[.pointer (some ⟨w.heap.size, 0, none⟩)]] 85 (0, 0)) by rw [hW]; exact (two_new w _ _).2)
 have HB := aq_ (show Below w.heap.size w W by rw [hW]; exact below_alloc (below_alloc (Below.refl _ _) _) _)
 clear hW
 obtain ⟨c0, c1, c2, c3, c4, c5, c6⟩ := (cells7 G.out).1
 go_wp2_with (first
  | (go_at_call 42; (with_reducible refine (umay_any M.U AU cU _ (Kd.C_below CU.out HB.out)).mono ?_); rw [T0.out]; rintro e w_ ⟨rfl, hb⟩; replace HB := aq_ (below_step HB.out hb); replace G := aq_ (blk_below G.out hb); replace H := aq_ (blk_below H.out hb); clear hb; obtain ⟨c0, c1, c2, c3, c4, c5, c6⟩ := (cells7 G.out).1)
  | (go_at_call 43; (with_reducible refine (sin_any M.idle 1 1048576 _).mono ?_); rw [T1.out]; rintro e w_ ⟨rfl, rfl⟩)
  | (go_at_call 44; (with_reducible refine (mayL_any M.T AT cT _ (Kd.C_below CT.out HB.out) LT.out).mono ?_); rw [T2.out]; rintro e w_ ⟨rfl, hb⟩; replace HB := aq_ (below_step HB.out hb); replace G := aq_ (blk_below G.out hb); replace H := aq_ (blk_below H.out hb); clear hb; obtain ⟨c0, c1, c2, c3, c4, c5, c6⟩ := (cells7 G.out).1)
  | (go_at_call 45; (with_reducible refine (cont_bad M _ _ _ _ w.heap.size (w.heap.size + 1) M.T AT cT _ (Kd.C_below CT.out HB.out) (told_belowG TU.out HB.out) G.out H.out).mono ?_); rw [T3.out]; rintro e w_ ⟨rfl, hb⟩; replace HB := aq_ (below_step HB.out hb); replace G := aq_ (blk_below G.out hb); replace H := aq_ (blk_below H.out hb); clear hb; obtain ⟨c0, c1, c2, c3, c4, c5, c6⟩ := (cells7 G.out).1))
 go_ret
 exact ⟨rfl, HB.out⟩
set_option maxHeartbeats 4000000 in
theorem mayM_4 (M : Mdl) (vU vT vK vD : Value) (w : World) (hm : MdC w M vU vT vK vD) (t0 : mayU M.U = true) (t1 : inB M.idle 1 1048576 = true) (t2 : mayS M.T = true) (t3 : (M.T.any fun x => !mineB M x) = false) (t4 : inB M.epoch 0 1073741824 = false) :
  Calls Tryz.prog 22 #[.agg (mca M vU vT vK vD)] w fun e w' => e = .returned (.bool false) ∧ Below w.heap.size w w' := by
 have T0 := aq_ t0
 have T1 := aq_ t1
 have T2 := aq_ t2
 have T3 := aq_ t3
 have T4 := aq_ t4
 obtain ⟨hU, hT, hK, _⟩ := hm
 have TU := aq_ hU
 obtain ⟨AU, cU, rfl, _, hCU⟩ := hU
 obtain ⟨AT, cT, rfl, hLT, hCT⟩ := hT
 obtain ⟨AK, cK, rfl, hLK, hCK⟩ := hK
 have CU := aq_ hCU
 have CT := aq_ hCT
 have CK := aq_ hCK
 have LT := aq_ hLT
 have LK := aq_ hLK
 clear hCU hCT hCK hLT hLK t0 t1 t2 t3 t4
 unfold mca
 go_enter Tryz.func22, Tryz.ntmps22
 go_upto_region 3 with (fail)
 obtain ⟨W, hW⟩ : ∃ W, W = (w.alloc (.cells #[.slice AU M.U.length cU, .int .i64 M.idle, .slice AT M.T.length cT, .int .i64 M.epoch, .int .i64 M.now, .slice AK M.K.length cK, vD] 42)).alloc (.cells #[.func (.func 40) #[] #[.pointer (some ⟨w.heap.size, 0, none⟩)]] 85) := ⟨_, rfl⟩
 rw [← hW]
 have G := aq_ (show W.heap[w.heap.size]? = some (.cells (mca M (.slice AU M.U.length cU) (.slice AT M.T.length cT) (.slice AK M.K.length cK) vD) 42 (0, 0)) by rw [hW]; exact (two_new w _ _).1)
 have H := aq_ (show W.heap[w.heap.size + 1]? = some (.cells #[.func (.func 40) #[] #[.pointer (some ⟨w.heap.size, 0, none⟩)]] 85 (0, 0)) by rw [hW]; exact (two_new w _ _).2)
 have HB := aq_ (show Below w.heap.size w W by rw [hW]; exact below_alloc (below_alloc (Below.refl _ _) _) _)
 clear hW
 obtain ⟨c0, c1, c2, c3, c4, c5, c6⟩ := (cells7 G.out).1
 go_wp2_with (first
  | (go_at_call 42; (with_reducible refine (umay_any M.U AU cU _ (Kd.C_below CU.out HB.out)).mono ?_); rw [T0.out]; rintro e w_ ⟨rfl, hb⟩; replace HB := aq_ (below_step HB.out hb); replace G := aq_ (blk_below G.out hb); replace H := aq_ (blk_below H.out hb); clear hb; obtain ⟨c0, c1, c2, c3, c4, c5, c6⟩ := (cells7 G.out).1)
  | (go_at_call 43; (with_reducible refine (sin_any M.idle 1 1048576 _).mono ?_); rw [T1.out]; rintro e w_ ⟨rfl, rfl⟩)
  | (go_at_call 44; (with_reducible refine (mayL_any M.T AT cT _ (Kd.C_below CT.out HB.out) LT.out).mono ?_); rw [T2.out]; rintro e w_ ⟨rfl, hb⟩; replace HB := aq_ (below_step HB.out hb); replace G := aq_ (blk_below G.out hb); replace H := aq_ (blk_below H.out hb); clear hb; obtain ⟨c0, c1, c2, c3, c4, c5, c6⟩ := (cells7 G.out).1)
  | (go_at_call 45; (with_reducible refine (cont_bad M _ _ _ _ w.heap.size (w.heap.size + 1) M.T AT cT _ (Kd.C_below CT.out HB.out) (told_belowG TU.out HB.out) G.out H.out).mono ?_); rw [T3.out]; rintro e w_ ⟨rfl, hb⟩; replace HB := aq_ (below_step HB.out hb); replace G := aq_ (blk_below G.out hb); replace H := aq_ (blk_below H.out hb); clear hb; obtain ⟨c0, c1, c2, c3, c4, c5, c6⟩ := (cells7 G.out).1)
  | (go_at_call 43; (with_reducible refine (sin_any M.epoch 0 1073741824 _).mono ?_); rw [T4.out]; rintro e w_ ⟨rfl, rfl⟩))
 go_ret
 exact ⟨rfl, HB.out⟩
set_option maxHeartbeats 4000000 in
theorem mayM_5 (M : Mdl) (vU vT vK vD : Value) (w : World) (hm : MdC w M vU vT vK vD) (t0 : mayU M.U = true) (t1 : inB M.idle 1 1048576 = true) (t2 : mayS M.T = true) (t3 : (M.T.any fun x => !mineB M x) = false) (t4 : inB M.epoch 0 1073741824 = true) (t5 : inB M.now 0 1073741824 = false) :
  Calls Tryz.prog 22 #[.agg (mca M vU vT vK vD)] w fun e w' => e = .returned (.bool false) ∧ Below w.heap.size w w' := by
 have T0 := aq_ t0
 have T1 := aq_ t1
 have T2 := aq_ t2
 have T3 := aq_ t3
 have T4 := aq_ t4
 have T5 := aq_ t5
 obtain ⟨hU, hT, hK, _⟩ := hm
 have TU := aq_ hU
 obtain ⟨AU, cU, rfl, _, hCU⟩ := hU
 obtain ⟨AT, cT, rfl, hLT, hCT⟩ := hT
 obtain ⟨AK, cK, rfl, hLK, hCK⟩ := hK
 have CU := aq_ hCU
 have CT := aq_ hCT
 have CK := aq_ hCK
 have LT := aq_ hLT
 have LK := aq_ hLK
 clear hCU hCT hCK hLT hLK t0 t1 t2 t3 t4 t5
 unfold mca
 go_enter Tryz.func22, Tryz.ntmps22
 go_upto_region 3 with (fail)
 obtain ⟨W, hW⟩ : ∃ W, W = (w.alloc (.cells #[.slice AU M.U.length cU, .int .i64 M.idle, .slice AT M.T.length cT, .int .i64 M.epoch, .int .i64 M.now, .slice AK M.K.length cK, vD] 42)).alloc (.cells #[.func (.func 40) #[] #[.pointer (some ⟨w.heap.size, 0, none⟩)]] 85) := ⟨_, rfl⟩
 rw [← hW]
 have G := aq_ (show W.heap[w.heap.size]? = some (.cells (mca M (.slice AU M.U.length cU) (.slice AT M.T.length cT) (.slice AK M.K.length cK) vD) 42 (0, 0)) by rw [hW]; exact (two_new w _ _).1)
 have H := aq_ (show W.heap[w.heap.size + 1]? = some (.cells #[.func (.func 40) #[] #[.pointer (some ⟨w.heap.size, 0, none⟩)]] 85 (0, 0)) by rw [hW]; exact (two_new w _ _).2)
 have HB := aq_ (show Below w.heap.size w W by rw [hW]; exact below_alloc (below_alloc (Below.refl _ _) _) _)
 clear hW
 obtain ⟨c0, c1, c2, c3, c4, c5, c6⟩ := (cells7 G.out).1
 go_wp2_with (first
  | (go_at_call 42; (with_reducible refine (umay_any M.U AU cU _ (Kd.C_below CU.out HB.out)).mono ?_); rw [T0.out]; rintro e w_ ⟨rfl, hb⟩; replace HB := aq_ (below_step HB.out hb); replace G := aq_ (blk_below G.out hb); replace H := aq_ (blk_below H.out hb); clear hb; obtain ⟨c0, c1, c2, c3, c4, c5, c6⟩ := (cells7 G.out).1)
  | (go_at_call 43; (with_reducible refine (sin_any M.idle 1 1048576 _).mono ?_); rw [T1.out]; rintro e w_ ⟨rfl, rfl⟩)
  | (go_at_call 44; (with_reducible refine (mayL_any M.T AT cT _ (Kd.C_below CT.out HB.out) LT.out).mono ?_); rw [T2.out]; rintro e w_ ⟨rfl, hb⟩; replace HB := aq_ (below_step HB.out hb); replace G := aq_ (blk_below G.out hb); replace H := aq_ (blk_below H.out hb); clear hb; obtain ⟨c0, c1, c2, c3, c4, c5, c6⟩ := (cells7 G.out).1)
  | (go_at_call 45; (with_reducible refine (cont_bad M _ _ _ _ w.heap.size (w.heap.size + 1) M.T AT cT _ (Kd.C_below CT.out HB.out) (told_belowG TU.out HB.out) G.out H.out).mono ?_); rw [T3.out]; rintro e w_ ⟨rfl, hb⟩; replace HB := aq_ (below_step HB.out hb); replace G := aq_ (blk_below G.out hb); replace H := aq_ (blk_below H.out hb); clear hb; obtain ⟨c0, c1, c2, c3, c4, c5, c6⟩ := (cells7 G.out).1)
  | (go_at_call 43; (with_reducible refine (sin_any M.epoch 0 1073741824 _).mono ?_); rw [T4.out]; rintro e w_ ⟨rfl, rfl⟩)
  | (go_at_call 43; (with_reducible refine (sin_any M.now 0 1073741824 _).mono ?_); rw [T5.out]; rintro e w_ ⟨rfl, rfl⟩))
 go_ret
 exact ⟨rfl, HB.out⟩
set_option maxHeartbeats 4000000 in
theorem mayM_6 (M : Mdl) (vU vT vK vD : Value) (w : World) (hm : MdC w M vU vT vK vD) (t0 : mayU M.U = true) (t1 : inB M.idle 1 1048576 = true) (t2 : mayS M.T = true) (t3 : (M.T.any fun x => !mineB M x) = false) (t4 : inB M.epoch 0 1073741824 = true) (t5 : inB M.now 0 1073741824 = true) (t6 : mayL M.K = false) :
  Calls Tryz.prog 22 #[.agg (mca M vU vT vK vD)] w fun e w' => e = .returned (.bool false) ∧ Below w.heap.size w w' := by
 have T0 := aq_ t0
 have T1 := aq_ t1
 have T2 := aq_ t2
 have T3 := aq_ t3
 have T4 := aq_ t4
 have T5 := aq_ t5
 have T6 := aq_ t6
 obtain ⟨hU, hT, hK, _⟩ := hm
 have TU := aq_ hU
 obtain ⟨AU, cU, rfl, _, hCU⟩ := hU
 obtain ⟨AT, cT, rfl, hLT, hCT⟩ := hT
 obtain ⟨AK, cK, rfl, hLK, hCK⟩ := hK
 have CU := aq_ hCU
 have CT := aq_ hCT
 have CK := aq_ hCK
 have LT := aq_ hLT
 have LK := aq_ hLK
 clear hCU hCT hCK hLT hLK t0 t1 t2 t3 t4 t5 t6
 unfold mca
 go_enter Tryz.func22, Tryz.ntmps22
 go_upto_region 3 with (fail)
 obtain ⟨W, hW⟩ : ∃ W, W = (w.alloc (.cells #[.slice AU M.U.length cU, .int .i64 M.idle, .slice AT M.T.length cT, .int .i64 M.epoch, .int .i64 M.now, .slice AK M.K.length cK, vD] 42)).alloc (.cells #[.func (.func 40) #[] #[.pointer (some ⟨w.heap.size, 0, none⟩)]] 85) := ⟨_, rfl⟩
 rw [← hW]
 have G := aq_ (show W.heap[w.heap.size]? = some (.cells (mca M (.slice AU M.U.length cU) (.slice AT M.T.length cT) (.slice AK M.K.length cK) vD) 42 (0, 0)) by rw [hW]; exact (two_new w _ _).1)
 have H := aq_ (show W.heap[w.heap.size + 1]? = some (.cells #[.func (.func 40) #[] #[.pointer (some ⟨w.heap.size, 0, none⟩)]] 85 (0, 0)) by rw [hW]; exact (two_new w _ _).2)
 have HB := aq_ (show Below w.heap.size w W by rw [hW]; exact below_alloc (below_alloc (Below.refl _ _) _) _)
 clear hW
 obtain ⟨c0, c1, c2, c3, c4, c5, c6⟩ := (cells7 G.out).1
 go_wp2_with (first
  | (go_at_call 42; (with_reducible refine (umay_any M.U AU cU _ (Kd.C_below CU.out HB.out)).mono ?_); rw [T0.out]; rintro e w_ ⟨rfl, hb⟩; replace HB := aq_ (below_step HB.out hb); replace G := aq_ (blk_below G.out hb); replace H := aq_ (blk_below H.out hb); clear hb; obtain ⟨c0, c1, c2, c3, c4, c5, c6⟩ := (cells7 G.out).1)
  | (go_at_call 43; (with_reducible refine (sin_any M.idle 1 1048576 _).mono ?_); rw [T1.out]; rintro e w_ ⟨rfl, rfl⟩)
  | (go_at_call 44; (with_reducible refine (mayL_any M.T AT cT _ (Kd.C_below CT.out HB.out) LT.out).mono ?_); rw [T2.out]; rintro e w_ ⟨rfl, hb⟩; replace HB := aq_ (below_step HB.out hb); replace G := aq_ (blk_below G.out hb); replace H := aq_ (blk_below H.out hb); clear hb; obtain ⟨c0, c1, c2, c3, c4, c5, c6⟩ := (cells7 G.out).1)
  | (go_at_call 45; (with_reducible refine (cont_bad M _ _ _ _ w.heap.size (w.heap.size + 1) M.T AT cT _ (Kd.C_below CT.out HB.out) (told_belowG TU.out HB.out) G.out H.out).mono ?_); rw [T3.out]; rintro e w_ ⟨rfl, hb⟩; replace HB := aq_ (below_step HB.out hb); replace G := aq_ (blk_below G.out hb); replace H := aq_ (blk_below H.out hb); clear hb; obtain ⟨c0, c1, c2, c3, c4, c5, c6⟩ := (cells7 G.out).1)
  | (go_at_call 43; (with_reducible refine (sin_any M.epoch 0 1073741824 _).mono ?_); rw [T4.out]; rintro e w_ ⟨rfl, rfl⟩)
  | (go_at_call 43; (with_reducible refine (sin_any M.now 0 1073741824 _).mono ?_); rw [T5.out]; rintro e w_ ⟨rfl, rfl⟩)
  | (go_at_call 19; (with_reducible refine (know_May.calls AK cK M.K _ _ (Kd.C_below CK.out HB.out) LK.out rfl).mono ?_); rw [T6.out]; rintro e w_ ⟨rfl, hb⟩; replace HB := aq_ (below_step HB.out hb); replace G := aq_ (blk_below G.out hb); replace H := aq_ (blk_below H.out hb); clear hb; obtain ⟨c0, c1, c2, c3, c4, c5, c6⟩ := (cells7 G.out).1))
 go_ret
 exact ⟨rfl, HB.out⟩
set_option maxHeartbeats 4000000 in
theorem mayM_7 (M : Mdl) (vU vT vK vD : Value) (w : World) (hm : MdC w M vU vT vK vD) (t0 : mayU M.U = true) (t1 : inB M.idle 1 1048576 = true) (t2 : mayS M.T = true) (t3 : (M.T.any fun x => !mineB M x) = false) (t4 : inB M.epoch 0 1073741824 = true) (t5 : inB M.now 0 1073741824 = true) (t6 : mayL M.K = true) :
  Calls Tryz.prog 22 #[.agg (mca M vU vT vK vD)] w fun e w' => e = .returned (.bool true) ∧ Below w.heap.size w w' := by
 have T0 := aq_ t0
 have T1 := aq_ t1
 have T2 := aq_ t2
 have T3 := aq_ t3
 have T4 := aq_ t4
 have T5 := aq_ t5
 have T6 := aq_ t6
 obtain ⟨hU, hT, hK, _⟩ := hm
 have TU := aq_ hU
 obtain ⟨AU, cU, rfl, _, hCU⟩ := hU
 obtain ⟨AT, cT, rfl, hLT, hCT⟩ := hT
 obtain ⟨AK, cK, rfl, hLK, hCK⟩ := hK
 have CU := aq_ hCU
 have CT := aq_ hCT
 have CK := aq_ hCK
 have LT := aq_ hLT
 have LK := aq_ hLK
 clear hCU hCT hCK hLT hLK t0 t1 t2 t3 t4 t5 t6
 unfold mca
 go_enter Tryz.func22, Tryz.ntmps22
 go_upto_region 3 with (fail)
 obtain ⟨W, hW⟩ : ∃ W, W = (w.alloc (.cells #[.slice AU M.U.length cU, .int .i64 M.idle, .slice AT M.T.length cT, .int .i64 M.epoch, .int .i64 M.now, .slice AK M.K.length cK, vD] 42)).alloc (.cells #[.func (.func 40) #[] #[.pointer (some ⟨w.heap.size, 0, none⟩)]] 85) := ⟨_, rfl⟩
 rw [← hW]
 have G := aq_ (show W.heap[w.heap.size]? = some (.cells (mca M (.slice AU M.U.length cU) (.slice AT M.T.length cT) (.slice AK M.K.length cK) vD) 42 (0, 0)) by rw [hW]; exact (two_new w _ _).1)
 have H := aq_ (show W.heap[w.heap.size + 1]? = some (.cells #[.func (.func 40) #[] #[.pointer (some ⟨w.heap.size, 0, none⟩)]] 85 (0, 0)) by rw [hW]; exact (two_new w _ _).2)
 have HB := aq_ (show Below w.heap.size w W by rw [hW]; exact below_alloc (below_alloc (Below.refl _ _) _) _)
 clear hW
 obtain ⟨c0, c1, c2, c3, c4, c5, c6⟩ := (cells7 G.out).1
 go_wp2_with (first
  | (go_at_call 42; (with_reducible refine (umay_any M.U AU cU _ (Kd.C_below CU.out HB.out)).mono ?_); rw [T0.out]; rintro e w_ ⟨rfl, hb⟩; replace HB := aq_ (below_step HB.out hb); replace G := aq_ (blk_below G.out hb); replace H := aq_ (blk_below H.out hb); clear hb; obtain ⟨c0, c1, c2, c3, c4, c5, c6⟩ := (cells7 G.out).1)
  | (go_at_call 43; (with_reducible refine (sin_any M.idle 1 1048576 _).mono ?_); rw [T1.out]; rintro e w_ ⟨rfl, rfl⟩)
  | (go_at_call 44; (with_reducible refine (mayL_any M.T AT cT _ (Kd.C_below CT.out HB.out) LT.out).mono ?_); rw [T2.out]; rintro e w_ ⟨rfl, hb⟩; replace HB := aq_ (below_step HB.out hb); replace G := aq_ (blk_below G.out hb); replace H := aq_ (blk_below H.out hb); clear hb; obtain ⟨c0, c1, c2, c3, c4, c5, c6⟩ := (cells7 G.out).1)
  | (go_at_call 45; (with_reducible refine (cont_bad M _ _ _ _ w.heap.size (w.heap.size + 1) M.T AT cT _ (Kd.C_below CT.out HB.out) (told_belowG TU.out HB.out) G.out H.out).mono ?_); rw [T3.out]; rintro e w_ ⟨rfl, hb⟩; replace HB := aq_ (below_step HB.out hb); replace G := aq_ (blk_below G.out hb); replace H := aq_ (blk_below H.out hb); clear hb; obtain ⟨c0, c1, c2, c3, c4, c5, c6⟩ := (cells7 G.out).1)
  | (go_at_call 43; (with_reducible refine (sin_any M.epoch 0 1073741824 _).mono ?_); rw [T4.out]; rintro e w_ ⟨rfl, rfl⟩)
  | (go_at_call 43; (with_reducible refine (sin_any M.now 0 1073741824 _).mono ?_); rw [T5.out]; rintro e w_ ⟨rfl, rfl⟩)
  | (go_at_call 19; (with_reducible refine (know_May.calls AK cK M.K _ _ (Kd.C_below CK.out HB.out) LK.out rfl).mono ?_); rw [T6.out]; rintro e w_ ⟨rfl, hb⟩; replace HB := aq_ (below_step HB.out hb); replace G := aq_ (blk_below G.out hb); replace H := aq_ (blk_below H.out hb); clear hb; obtain ⟨c0, c1, c2, c3, c4, c5, c6⟩ := (cells7 G.out).1))
 go_ret
 exact ⟨rfl, HB.out⟩
theorem mayM_any (M : Mdl) (vU vT vK vD : Value) (w : World) (hm : MdC w M vU vT vK vD) :
  Calls Tryz.prog 22 #[.agg (mca M vU vT vK vD)] w fun e w' => e = .returned (.bool (mayM M)) ∧ Below w.heap.size w w' := by
 unfold mayM
 cases t0 : mayU M.U
 ·exact mayM_0 M vU vT vK vD w hm t0
 cases t1 : inB M.idle 1 1048576
 ·exact mayM_1 M vU vT vK vD w hm t0 t1
 cases t2 : mayS M.T
 ·exact mayM_2 M vU vT vK vD w hm t0 t1 t2
 cases t3 : (M.T.any fun x => !mineB M x)
 rotate_left
 ·exact mayM_3 M vU vT vK vD w hm t0 t1 t2 t3
 cases t4 : inB M.epoch 0 1073741824
 ·exact mayM_4 M vU vT vK vD w hm t0 t1 t2 t3 t4
 cases t5 : inB M.now 0 1073741824
 ·exact mayM_5 M vU vT vK vD w hm t0 t1 t2 t3 t4 t5
 cases t6 : mayL M.K
 ·exact mayM_6 M vU vT vK vD w hm t0 t1 t2 t3 t4 t5 t6
 exact mayM_7 M vU vT vK vD w hm t0 t1 t2 t3 t4 t5 t6
theorem eqg_ses : Tryz.prog.eqGuardType Tryz.prog.depth 33 = false := by kernel_rfl
theorem take_more {l k : List Ses} {i : Nat} {x : Ses} (h : l.take i = k.take i) (hx : l[i]? = some x) (hy : k[i]? = some x) : l.take (i + 1) = k.take (i + 1) := by
 rw [List.take_add_one, List.take_add_one, h, hx, hy]
theorem take_not {l k : List Ses} {i : Nat} {x y : Ses} (hx : l[i]? = some x) (hy : k[i]? = some y) (h : x ≠ y) : l ≠ k := by
 rintro rfl
 rw [hx] at hy
 exact h (Option.some.inj hy)
theorem drew_cells {w : World} {p : Addr} {x : Ses} (h : ∀ j v, (scl x)[j]? = some v → w.cell? (p.add j) = some v) : ∀ j v, (scl x)[j]? = some v → w.drew.cell? (p.add j) = some v := h
set_option maxHeartbeats 2000000 in
set_option maxRecDepth 100000 in
theorem equal_any (l k : List Ses) (A B : Option Addr) (c d : Nat) (W : World) (hr : Kd.C kS W A l.length l) (hs : Kd.C kS W B k.length k) :
  Calls Tryz.prog 78 #[.slice A l.length c, .slice B k.length d] W fun e w' => e = .returned (.bool (decide (l = k))) ∧ Below W.heap.size W w' := by
 have hml : l.length ≤ 9223372036854775807 := hr.2.1
 have HC := aq_ hr
 have HD := aq_ hs
 have HB := aq_ (Below.refl W.heap.size W)
 clear hr hs
 have hg := eqg_ses
 by_cases hlen : l.length = k.length
 ·have HLEN := aq_ hlen
  have hl2 : (decide ((l.length : Int) = (k.length : Int))) = true := by simp [hlen]
  have hl3 : ((l.length : Int) == (k.length : Int)) = true := by simp [hlen]
  clear hlen
  go_enter Tryz.func78, Tryz.ntmps78
  go_wp2
  go_loopw [13] (fun v wr => ∃ i : Nat, i ≤ l.length ∧ v = .int .i64 i ∧ Aside0 (l.take i = k.take i) ∧ Aside0 (Below W.heap.size W wr)) (fun v _ => l.length - (intOf v).toNat)
  case atStart => exact ⟨0, by omega, rfl, ⟨rfl⟩, HB⟩
  case round =>
   clear HB
   obtain ⟨i, hi, rfl, HS, HB⟩ := hrel
   obtain ⟨wo, rfl⟩ : ∃ wo : World, wo = wr := ⟨_, rfl⟩
   by_cases hlt : i < l.length
   ·have hlt2 : i < k.length := by rw [← HLEN.out]; exact hlt
    obtain ⟨x, hx⟩ : ∃ x, l[i]? = some x := ⟨_, List.getElem?_eq_getElem hlt⟩
    obtain ⟨y, hy⟩ : ∃ y, k[i]? = some y := ⟨_, List.getElem?_eq_getElem hlt2⟩
    obtain ⟨ax, e0, hc, _⟩ := at_S (Kd.C_below HC.out HB.out) i hlt x hx
    obtain ⟨ay, e1, hd, _⟩ := at_S (Kd.C_below HD.out HB.out) i hlt2 y hy
    subst e0 e1
    have HX := aq_ hc
    have HY := aq_ hd
    have H1 := aq_ hx
    have H2 := aq_ hy
    clear hc hd hx hy
    by_cases hxy : x = y
    ·subst hxy
     have HT := aq_ (take_more HS.out H1.out H2.out)
     have n1 := fun w => neq_ses w x x
     rw [decide_eq_true rfl] at n1
     clear hl2 hl3
     go_wp2
     refine start_ (n := 9) (S := fun w' => (∀ j v, (scl x)[j]? = some v → w'.cell? ((ax.add (i * 39)).add j) = some v) ∧ (∀ j v, (scl x)[j]? = some v → w'.cell? ((ay.add (i * 39)).add j) = some v)) (ds := []) #[false, false, false, false, false, false, false, false, false] (by kernel_rfl) rfl rfl ⟨drew_cells HX.out, drew_cells HY.out⟩ (fun hHeld => ?_)
     refine pz_ 0 (some 16) (bt_ 9 1) ?_
     refine pz_ 1 (some 17) (bt_ 9 3) ?_
     refine pz_ 2 (some 18) (bt_ 9 7) ?_
     refine pz_ 4 (some 20) (bt_ 9 23) ?_
     refine pz_ 5 (some 21) (bt_ 9 55) ?_
     refine pz_ 6 (some 22) (bt_ 9 119) ?_
     refine ta_ 3 (some 19) ?_ (bt_ 9 127) rfl rfl (Or.inl ⟨by rfl, ?_⟩) hHeld ?_ ?_ ?_
     rotate_left
     ·rintro w' ⟨s0, s1⟩
      rw [exec_loadS (.tmp 18) (by rfl) (by rfl) s0]
     rotate_left
     ·simp only [pt_]
      rfl
     refine ta_ 7 (some 23) ?_ (bt_ 9 255) rfl rfl (Or.inl ⟨by rfl, ?_⟩) hHeld ?_ ?_ ?_
     rotate_left
     ·rintro w' ⟨s0, s1⟩
      rw [exec_loadS (.tmp 22) (by rfl) (by rfl) s1]
     rotate_left
     ·simp only [pt_]
      rfl
     refine pz_ 8 (some 24) (bt_ 9 511) ?_
     refine done_ (by kernel_rfl) ?_
     have HB1 := aq_ (below_drew HB.out)
     go_wp2
     go_roundw
     case rel => exact ⟨i + 1, by omega, by go_num, HT, HB1⟩
     case measure => simp [intOf]; omega
    ·have HT := aq_ (take_not H1.out H2.out hxy)
     have n1 := fun w => neq_ses w x y
     rw [decide_eq_false hxy] at n1
     clear hl2 hl3 hxy
     go_wp2
     refine start_ (n := 9) (S := fun w' => (∀ j v, (scl x)[j]? = some v → w'.cell? ((ax.add (i * 39)).add j) = some v) ∧ (∀ j v, (scl y)[j]? = some v → w'.cell? ((ay.add (i * 39)).add j) = some v)) (ds := []) #[false, false, false, false, false, false, false, false, false] (by kernel_rfl) rfl rfl ⟨drew_cells HX.out, drew_cells HY.out⟩ (fun hHeld => ?_)
     refine pz_ 0 (some 16) (bt_ 9 1) ?_
     refine pz_ 1 (some 17) (bt_ 9 3) ?_
     refine pz_ 2 (some 18) (bt_ 9 7) ?_
     refine pz_ 4 (some 20) (bt_ 9 23) ?_
     refine pz_ 5 (some 21) (bt_ 9 55) ?_
     refine pz_ 6 (some 22) (bt_ 9 119) ?_
     refine ta_ 3 (some 19) ?_ (bt_ 9 127) rfl rfl (Or.inl ⟨by rfl, ?_⟩) hHeld ?_ ?_ ?_
     rotate_left
     ·rintro w' ⟨s0, s1⟩
      rw [exec_loadS (.tmp 18) (by rfl) (by rfl) s0]
     rotate_left
     ·simp only [pt_]
      rfl
     refine ta_ 7 (some 23) ?_ (bt_ 9 255) rfl rfl (Or.inl ⟨by rfl, ?_⟩) hHeld ?_ ?_ ?_
     rotate_left
     ·rintro w' ⟨s0, s1⟩
      rw [exec_loadS (.tmp 22) (by rfl) (by rfl) s1]
     rotate_left
     ·simp only [pt_]
      rfl
     refine pz_ 8 (some 24) (bt_ 9 511) ?_
     refine done_ (by kernel_rfl) ?_
     have HB1 := aq_ (below_drew HB.out)
     go_wp2
     go_ret
     exact ⟨by rw [decide_eq_false HT.out]; rfl, HB1.out⟩
   ·obtain rfl : i = l.length := by omega
    go_wp2
    go_ret
    have h1 := HS.out
    have h2 := HLEN.out
    rw [List.take_length, h2, List.take_length] at h1
    exact ⟨by rw [decide_eq_true h1]; rfl, HB.out⟩
 ·have hl2 : decide ((l.length : Int) = (k.length : Int)) = false := by simpa using (show ¬ ((l.length : Int) = (k.length : Int)) by omega)
  have hl3 : ((l.length : Int) == (k.length : Int)) = false := by simpa using (show ¬ ((l.length : Int) = (k.length : Int)) by omega)
  have HN := aq_ (show l ≠ k from fun e => hlen (by rw [e]))
  clear hlen
  go_enter Tryz.func78, Tryz.ntmps78
  go_wp2
  go_ret
  exact ⟨by rw [decide_eq_false HN.out]; rfl, HB.out⟩
theorem same_any (l k : List Ses) (A B : Option Addr) (c d : Nat) (W : World) (hr : Kd.C kS W A l.length l) (hs : Kd.C kS W B k.length k) :
  Calls Tryz.prog 47 #[.slice A l.length c, .slice B k.length d] W fun e w' => e = .returned (.bool (decide (l = k))) ∧ Below W.heap.size W w' := by
 have HC := aq_ hr
 have HD := aq_ hs
 clear hr hs
 go_enter Tryz.func47, Tryz.ntmps47
 go_wp2_with (go_at_call 78; (with_reducible refine (equal_any l k A B c d _ HC.out HD.out).mono ?_); rintro e w1 ⟨rfl, hb⟩; have HB := aq_ hb; clear hb)
 go_ret
 exact ⟨rfl, HB.out⟩
end Go.Proofs.YtdinphnljokigaaGreat.P
end
