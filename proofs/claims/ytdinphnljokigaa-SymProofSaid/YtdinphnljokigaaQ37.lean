/- What LawSymProof rests on, part 37: several texts put together. -/
import Derived.Test.YtdinphnljokigaaQ36
import Derived.Test.YtdinphnljokigaaQ29
import Derived.Test.YtdinphnljokigaaQ2
set_option linter.unusedVariables false
set_option linter.unnecessarySimpa false
set_option linter.unusedSimpArgs false
set_option maxRecDepth 100000
section
namespace Go.Proofs.Ytdinphnljokigaa.P
open Go.RowKit Go.Lib Go.Proofs.YtdinphnljokigaaW.PrintWords Go.Proofs.YtdinphnljokigaaW.PrintLast Go.Proofs.YtdinphnljokigaaW.PrintMore
theorem load_Fw {ops : Array Oper} {rest : List Oper} {o : Oper} {a : Act} {w : World} {Q : Exit → Act → World → Prop} (x : Operand) (ho : o.op = .load 28 x) (hw : Region.wanted o (yielded ops a.tmps) = true) {p : Addr} (hx : a.eval x = .pointer (some p)) {s : Frm} (hc : ∀ j v, (fcl s)[j]? = some v → w.cell? (p.add j) = some v)
  (h : wpList Try.prog ops Q rest (a.put o.dst (.agg (fca s))) w) : wpList Try.prog ops Q (o :: rest) a w :=
 gate_guard hw (load_F (o := { o with guard := none }) x ho rfl hx hc h)
theorem ways {x y : Ses} {f g : Frm} (hx : wfS x) (hf : wfF f) (hy : wfS y) (hg : wfF g) (h1 : isP x f = true) (h2 : isP y g = true) :
  ((x.user == y.user) = false ∧ sameT (proofT x f) (proofT y g) = false) ∨ ((x.user == y.user) = true ∧ (x.epoch == y.epoch) = false ∧ sameT (proofT x f) (proofT y g) = false) ∨ ((x.user == y.user) = true ∧ (x.epoch == y.epoch) = true ∧ (x.draw == y.draw) = false ∧ sameT (proofT x f) (proofT y g) = false) ∨ ((x.user == y.user) = true ∧ (x.epoch == y.epoch) = true ∧ (x.draw == y.draw) = true ∧ (x.cn == y.cn) = false ∧ sameT (proofT x f) (proofT y g) = false) ∨ ((x.user == y.user) = true ∧ (x.epoch == y.epoch) = true ∧ (x.draw == y.draw) = true ∧ (x.cn == y.cn) = true ∧ (∀ W : World, (binOp .eql 28 (.agg (fca f)) (.agg (fca g))).run Try.prog W = .ok (.bool true) W) ∧ sameT (proofT x f) (proofT y g) = true) ∨ ((x.user == y.user) = true ∧ (x.epoch == y.epoch) = true ∧ (x.draw == y.draw) = true ∧ (x.cn == y.cn) = true ∧ (∀ W : World, (binOp .eql 28 (.agg (fca f)) (.agg (fca g))).run Try.prog W = .ok (.bool false) W) ∧ sameT (proofT x f) (proofT y g) = false) := by
 have hp := proof_same hx hf hy hg h1 h2
 cases t0 : (x.user == y.user)
 ·exact .inl ⟨rfl, by rw [hp, t0]; rfl⟩
 cases t1 : (x.epoch == y.epoch)
 ·exact .inr (.inl ⟨rfl, rfl, by rw [hp, t0, t1]; rfl⟩)
 cases t2 : (x.draw == y.draw)
 ·exact .inr (.inr (.inl ⟨rfl, rfl, rfl, by rw [hp, t0, t1, t2]; rfl⟩))
 cases t3 : (x.cn == y.cn)
 ·exact .inr (.inr (.inr (.inl ⟨rfl, rfl, rfl, rfl, by rw [hp, t0, t1, t2, t3]; rfl⟩)))
 cases tf : decide (f = g)
 ·exact .inr (.inr (.inr (.inr (.inr ⟨rfl, rfl, rfl, rfl, fun W => by rw [eql_frm W f g, tf], by rw [hp, t0, t1, t2, t3, tf]; rfl⟩))))
 ·exact .inr (.inr (.inr (.inr (.inl ⟨rfl, rfl, rfl, rfl, fun W => by rw [eql_frm W f g, tf], by rw [hp, t0, t1, t2, t3, tf]; rfl⟩))))
set_option maxHeartbeats 16000000 in
theorem symproof_0 (haw : ∀ w : World, Calls Try.prog 4 #[] w fun e w' => e = .returned (.bool true) ∧ Below w.heap.size w w') (x : Ses) (f : Frm) (y : Ses) (g : Frm) (w : World) (hx : wfS x) (hf : wfF f) (hy : wfS y) (hg : wfF g) (h1 : isP x f = false) :
  Calls Try.prog 3 #[.agg (sca x), .agg (fca f), .agg (sca y), .agg (fca g)] w fun e w' => e = .returned (.bool true) ∧ Below w.heap.size w w' := by
 cases h2 : isP y g <;> cases h3 : hasS y
 all_goals as_aux_lemma =>
  have HX := aq_ hx
  have HF := aq_ hf
  have HY := aq_ hy
  have HY1 := aq_ (show 0 ≤ y.draw from hy.1)
  have HY2 := aq_ (show 0 ≤ y.cn from hy.2)
  have HG := aq_ hg
  have H1 := aq_ h1
  have H2 := aq_ h2
  have H3 := aq_ h3
  have HB := aq_ (Below.refl w.heap.size w)
  have LB := aq_ (Nat.le_refl w.heap.size)
  clear hx hf hy hg h1 h2 h3
  go_enter Try.func3, Try.ntmps3
  go_upto_region 2 with (first
   | ((with_reducible refine box_Se (.tmp 0) (s := x) rfl rfl rfl ?_); intro g4 hg_ w1 hbox hb; replace HB := aq_ (HB.out.trans (Below.mono hb LB.out)); replace LB := aq_ (Nat.le_trans LB.out (Below.size hb)); have S4 := aq_ hbox; clear hg_ hbox hb)
   | ((with_reducible refine box_Fr (.tmp 1) (f := f) rfl rfl rfl ?_); intro g5 hg_ w1 hbox hb; replace HB := aq_ (HB.out.trans (Below.mono hb LB.out)); replace LB := aq_ (Nat.le_trans LB.out (Below.size hb)); replace S4 := aq_ (blk_below S4.out hb); have S5 := aq_ hbox; clear hg_ hbox hb)
   | ((with_reducible refine box_Se (.tmp 2) (s := y) rfl rfl rfl ?_); intro g6 hg_ w1 hbox hb; replace HB := aq_ (HB.out.trans (Below.mono hb LB.out)); replace LB := aq_ (Nat.le_trans LB.out (Below.size hb)); replace S4 := aq_ (blk_below S4.out hb); replace S5 := aq_ (blk_below S5.out hb); have S6 := aq_ hbox; clear hg_ hbox hb)
   | ((with_reducible refine box_Fr (.tmp 3) (f := g) rfl rfl rfl ?_); intro g7 hg_ w1 hbox hb; replace HB := aq_ (HB.out.trans (Below.mono hb LB.out)); replace LB := aq_ (Nat.le_trans LB.out (Below.size hb)); replace S4 := aq_ (blk_below S4.out hb); replace S5 := aq_ (blk_below S5.out hb); replace S6 := aq_ (blk_below S6.out hb); have S7 := aq_ hbox; clear hg_ hbox hb)
   | ((go_at_call 4; (with_reducible refine (haw _).mono ?_)); rintro e w2 ⟨rfl, hb⟩; replace HB := aq_ (HB.out.trans (Below.mono hb LB.out)); replace LB := aq_ (Nat.le_trans LB.out (Below.size hb)); replace S4 := aq_ (blk_below S4.out hb); replace S5 := aq_ (blk_below S5.out hb); replace S6 := aq_ (blk_below S6.out hb); replace S7 := aq_ (blk_below S7.out hb); clear hb))
  go_upto_region 3 with (first
   | (with_reducible refine load_S (.tmp 4) rfl rfl (p := ⟨g4, 0, none⟩) rfl (cells_box S4.out) ?_)
   | (with_reducible refine load_F (.tmp 5) rfl rfl (p := ⟨g5, 0, none⟩) rfl (cells_boxF S5.out) ?_)
   | ((go_at_call 5; (with_reducible refine (proof_any x f _ HX.out HF.out).mono ?_)); rw [H1.out]; rintro e w7 ⟨vp, rfl, hV, hb⟩; obtain ⟨A10, c10, rfl⟩ := Kd.V_slice hV; replace HB := aq_ (HB.out.trans (Below.mono hb LB.out)); replace LB := aq_ (Nat.le_trans LB.out (Below.size hb)); replace S4 := aq_ (blk_below S4.out hb); replace S5 := aq_ (blk_below S5.out hb); replace S6 := aq_ (blk_below S6.out hb); replace S7 := aq_ (blk_below S7.out hb); have V10 := aq_ hV; clear hb hV)
   | ((with_reducible refine alloc_Te rfl rfl ?_); intro gt_ hgt w8 hbox hb; have ALB := aq_ hb; have ALG := aq_ hgt; have TB := aq_ hbox; clear hgt hbox hb)
   | ((with_reducible refine store_Te2 (.tmp 10) (.tmp 22) rfl rfl rfl rfl rfl rfl TB.out ?_); intro w9 hx1 hs1 hb1 hf1; have hbt := ALB.out.trans (hb1 _ (Nat.le_of_eq ALG.out.symm)); replace HB := aq_ (HB.out.trans (Below.mono hbt LB.out)); replace LB := aq_ (Nat.le_trans LB.out (Below.size hbt)); replace S4 := aq_ (blk_below S4.out hbt); replace S5 := aq_ (blk_below S5.out hbt); replace S6 := aq_ (blk_below S6.out hbt); replace S7 := aq_ (blk_below S7.out hbt); replace V10 := aq_ (Kd.V_below V10.out hbt); have P10 := aq_ hx1; clear hx1 hs1 hb1 hf1 hbt ALB ALG TB))
  go_upto_region 4 with (first
   | (with_reducible refine load_S (.tmp 6) rfl rfl (p := ⟨g6, 0, none⟩) rfl (cells_box S6.out) ?_)
   | (with_reducible refine load_F (.tmp 7) rfl rfl (p := ⟨g7, 0, none⟩) rfl (cells_boxF S7.out) ?_)
   | ((go_at_call 5; (with_reducible refine (proof_any y g _ HY.out HG.out).mono ?_)); rw [H2.out]; rintro e w7 ⟨vp, rfl, hV, hb⟩; obtain ⟨A12, c12, rfl⟩ := Kd.V_slice hV; replace HB := aq_ (HB.out.trans (Below.mono hb LB.out)); replace LB := aq_ (Nat.le_trans LB.out (Below.size hb)); replace S4 := aq_ (blk_below S4.out hb); replace S5 := aq_ (blk_below S5.out hb); replace S6 := aq_ (blk_below S6.out hb); replace S7 := aq_ (blk_below S7.out hb); replace P10 := aq_ (blk_below P10.out hb); replace V10 := aq_ (Kd.V_below V10.out hb); have V12 := aq_ hV; clear hb hV)
   | ((with_reducible refine alloc_Te rfl rfl ?_); intro gt_ hgt w8 hbox hb; have ALB := aq_ hb; have ALG := aq_ hgt; have TB := aq_ hbox; clear hgt hbox hb)
   | ((with_reducible refine store_Te2 (.tmp 12) (.tmp 28) rfl rfl rfl rfl rfl rfl TB.out ?_); intro w9 hx1 hs1 hb1 hf1; have hbt := ALB.out.trans (hb1 _ (Nat.le_of_eq ALG.out.symm)); replace HB := aq_ (HB.out.trans (Below.mono hbt LB.out)); replace LB := aq_ (Nat.le_trans LB.out (Below.size hbt)); replace S4 := aq_ (blk_below S4.out hbt); replace S5 := aq_ (blk_below S5.out hbt); replace S6 := aq_ (blk_below S6.out hbt); replace S7 := aq_ (blk_below S7.out hbt); replace P10 := aq_ (blk_below P10.out hbt); replace V10 := aq_ (Kd.V_below V10.out hbt); replace V12 := aq_ (Kd.V_below V12.out hbt); have P12 := aq_ hx1; clear hx1 hs1 hb1 hf1 hbt ALB ALG TB))
  go_upto_region 5 with (first
   | (with_reducible refine load_S (.tmp 6) rfl rfl (p := ⟨g6, 0, none⟩) rfl (cells_box S6.out) ?_)
   | ((go_at_call 6; (with_reducible refine (key_any y _ HY1.out HY2.out).mono ?_)); rw [H3.out]; rintro e w7 ⟨vp, rfl, hV, hb⟩; obtain ⟨A14, c14, rfl⟩ := Kd.V_slice hV; replace HB := aq_ (HB.out.trans (Below.mono hb LB.out)); replace LB := aq_ (Nat.le_trans LB.out (Below.size hb)); replace S4 := aq_ (blk_below S4.out hb); replace S5 := aq_ (blk_below S5.out hb); replace S6 := aq_ (blk_below S6.out hb); replace S7 := aq_ (blk_below S7.out hb); replace P10 := aq_ (blk_below P10.out hb); replace P12 := aq_ (blk_below P12.out hb); replace V10 := aq_ (Kd.V_below V10.out hb); replace V12 := aq_ (Kd.V_below V12.out hb); have V14 := aq_ hV; clear hb hV)
   | ((with_reducible refine alloc_Te rfl rfl ?_); intro gt_ hgt w8 hbox hb; have ALB := aq_ hb; have ALG := aq_ hgt; have TB := aq_ hbox; clear hgt hbox hb)
   | ((with_reducible refine store_Te2 (.tmp 14) (.tmp 33) rfl rfl rfl rfl rfl rfl TB.out ?_); intro w9 hx1 hs1 hb1 hf1; have hbt := ALB.out.trans (hb1 _ (Nat.le_of_eq ALG.out.symm)); replace HB := aq_ (HB.out.trans (Below.mono hbt LB.out)); replace LB := aq_ (Nat.le_trans LB.out (Below.size hbt)); replace S4 := aq_ (blk_below S4.out hbt); replace S5 := aq_ (blk_below S5.out hbt); replace S6 := aq_ (blk_below S6.out hbt); replace S7 := aq_ (blk_below S7.out hbt); replace P10 := aq_ (blk_below P10.out hbt); replace P12 := aq_ (blk_below P12.out hbt); replace V10 := aq_ (Kd.V_below V10.out hbt); replace V12 := aq_ (Kd.V_below V12.out hbt); replace V14 := aq_ (Kd.V_below V14.out hbt); have P14 := aq_ hx1; clear hx1 hs1 hb1 hf1 hbt ALB ALG TB))
  obtain ⟨⟨p0, p1, p2⟩, _⟩ := cells3 P10.out
  obtain ⟨⟨r0, r1, r2⟩, _⟩ := cells3 P12.out
  obtain ⟨⟨k0, k1, k2⟩, _⟩ := cells3 P14.out
  obtain ⟨x0, x1, x2, x3, _⟩ := cellsS S4.out
  obtain ⟨y0, y1, y2, y3, _⟩ := cellsS S6.out
  go_wp2
  all_goals (go_ret; exact ⟨rfl, HB.out⟩)
set_option maxHeartbeats 16000000 in
theorem symproof_10 (haw : ∀ w : World, Calls Try.prog 4 #[] w fun e w' => e = .returned (.bool true) ∧ Below w.heap.size w w') (x : Ses) (f : Frm) (y : Ses) (g : Frm) (w : World) (hx : wfS x) (hf : wfF f) (hy : wfS y) (hg : wfF g) (h1 : isP x f = true) (h2 : isP y g = false) :
  Calls Try.prog 3 #[.agg (sca x), .agg (fca f), .agg (sca y), .agg (fca g)] w fun e w' => e = .returned (.bool true) ∧ Below w.heap.size w w' := by
 cases h3 : hasS y
 all_goals as_aux_lemma =>
  have HX := aq_ hx
  have HF := aq_ hf
  have HY := aq_ hy
  have HY1 := aq_ (show 0 ≤ y.draw from hy.1)
  have HY2 := aq_ (show 0 ≤ y.cn from hy.2)
  have HG := aq_ hg
  have H1 := aq_ h1
  have H2 := aq_ h2
  have H3 := aq_ h3
  have HB := aq_ (Below.refl w.heap.size w)
  have LB := aq_ (Nat.le_refl w.heap.size)
  have HSZ := aq_ (show tsize (proofT x f) ≤ 1000000 from Nat.le_trans (proof_small hx hf h1).2.1 (by decide))
  have HMY := aq_ (proof_small hx hf h1).1
  obtain ⟨n0, hn0⟩ : ∃ n0, tsize (proofT x f) = n0 := ⟨_, rfl⟩
  have HN := aq_ hn0
  have hn1 : decide ((n0 : Int) > 19) = false := by have := (proof_small hx hf h1).2.1; simp; omega
  have hk0 : ((proofT x f).f0 != 3) = false := by rw [(proof_small hx hf h1).2.2]; rfl
  have HK := aq_ (proof_key hx hf hy h1)
  clear hx hf hy hg h1 h2 h3
  go_enter Try.func3, Try.ntmps3
  go_upto_region 2 with (first
   | ((with_reducible refine box_Se (.tmp 0) (s := x) rfl rfl rfl ?_); intro g4 hg_ w1 hbox hb; replace HB := aq_ (HB.out.trans (Below.mono hb LB.out)); replace LB := aq_ (Nat.le_trans LB.out (Below.size hb)); have S4 := aq_ hbox; clear hg_ hbox hb)
   | ((with_reducible refine box_Fr (.tmp 1) (f := f) rfl rfl rfl ?_); intro g5 hg_ w1 hbox hb; replace HB := aq_ (HB.out.trans (Below.mono hb LB.out)); replace LB := aq_ (Nat.le_trans LB.out (Below.size hb)); replace S4 := aq_ (blk_below S4.out hb); have S5 := aq_ hbox; clear hg_ hbox hb)
   | ((with_reducible refine box_Se (.tmp 2) (s := y) rfl rfl rfl ?_); intro g6 hg_ w1 hbox hb; replace HB := aq_ (HB.out.trans (Below.mono hb LB.out)); replace LB := aq_ (Nat.le_trans LB.out (Below.size hb)); replace S4 := aq_ (blk_below S4.out hb); replace S5 := aq_ (blk_below S5.out hb); have S6 := aq_ hbox; clear hg_ hbox hb)
   | ((with_reducible refine box_Fr (.tmp 3) (f := g) rfl rfl rfl ?_); intro g7 hg_ w1 hbox hb; replace HB := aq_ (HB.out.trans (Below.mono hb LB.out)); replace LB := aq_ (Nat.le_trans LB.out (Below.size hb)); replace S4 := aq_ (blk_below S4.out hb); replace S5 := aq_ (blk_below S5.out hb); replace S6 := aq_ (blk_below S6.out hb); have S7 := aq_ hbox; clear hg_ hbox hb)
   | ((go_at_call 4; (with_reducible refine (haw _).mono ?_)); rintro e w2 ⟨rfl, hb⟩; replace HB := aq_ (HB.out.trans (Below.mono hb LB.out)); replace LB := aq_ (Nat.le_trans LB.out (Below.size hb)); replace S4 := aq_ (blk_below S4.out hb); replace S5 := aq_ (blk_below S5.out hb); replace S6 := aq_ (blk_below S6.out hb); replace S7 := aq_ (blk_below S7.out hb); clear hb))
  go_upto_region 3 with (first
   | (with_reducible refine load_S (.tmp 4) rfl rfl (p := ⟨g4, 0, none⟩) rfl (cells_box S4.out) ?_)
   | (with_reducible refine load_F (.tmp 5) rfl rfl (p := ⟨g5, 0, none⟩) rfl (cells_boxF S5.out) ?_)
   | ((go_at_call 5; (with_reducible refine (proof_any x f _ HX.out HF.out).mono ?_)); rw [H1.out]; rintro e w7 ⟨vp, rfl, hV, hb⟩; obtain ⟨A10, c10, rfl⟩ := Kd.V_slice hV; replace HB := aq_ (HB.out.trans (Below.mono hb LB.out)); replace LB := aq_ (Nat.le_trans LB.out (Below.size hb)); replace S4 := aq_ (blk_below S4.out hb); replace S5 := aq_ (blk_below S5.out hb); replace S6 := aq_ (blk_below S6.out hb); replace S7 := aq_ (blk_below S7.out hb); have V10 := aq_ hV; clear hb hV)
   | ((with_reducible refine alloc_Te rfl rfl ?_); intro gt_ hgt w8 hbox hb; have ALB := aq_ hb; have ALG := aq_ hgt; have TB := aq_ hbox; clear hgt hbox hb)
   | ((with_reducible refine store_Te2 (.tmp 10) (.tmp 22) rfl rfl rfl rfl rfl rfl TB.out ?_); intro w9 hx1 hs1 hb1 hf1; have hbt := ALB.out.trans (hb1 _ (Nat.le_of_eq ALG.out.symm)); replace HB := aq_ (HB.out.trans (Below.mono hbt LB.out)); replace LB := aq_ (Nat.le_trans LB.out (Below.size hbt)); replace S4 := aq_ (blk_below S4.out hbt); replace S5 := aq_ (blk_below S5.out hbt); replace S6 := aq_ (blk_below S6.out hbt); replace S7 := aq_ (blk_below S7.out hbt); replace V10 := aq_ (Kd.V_below V10.out hbt); have P10 := aq_ hx1; clear hx1 hs1 hb1 hf1 hbt ALB ALG TB))
  go_upto_region 4 with (first
   | (with_reducible refine load_S (.tmp 6) rfl rfl (p := ⟨g6, 0, none⟩) rfl (cells_box S6.out) ?_)
   | (with_reducible refine load_F (.tmp 7) rfl rfl (p := ⟨g7, 0, none⟩) rfl (cells_boxF S7.out) ?_)
   | ((go_at_call 5; (with_reducible refine (proof_any y g _ HY.out HG.out).mono ?_)); rw [H2.out]; rintro e w7 ⟨vp, rfl, hV, hb⟩; obtain ⟨A12, c12, rfl⟩ := Kd.V_slice hV; replace HB := aq_ (HB.out.trans (Below.mono hb LB.out)); replace LB := aq_ (Nat.le_trans LB.out (Below.size hb)); replace S4 := aq_ (blk_below S4.out hb); replace S5 := aq_ (blk_below S5.out hb); replace S6 := aq_ (blk_below S6.out hb); replace S7 := aq_ (blk_below S7.out hb); replace P10 := aq_ (blk_below P10.out hb); replace V10 := aq_ (Kd.V_below V10.out hb); have V12 := aq_ hV; clear hb hV)
   | ((with_reducible refine alloc_Te rfl rfl ?_); intro gt_ hgt w8 hbox hb; have ALB := aq_ hb; have ALG := aq_ hgt; have TB := aq_ hbox; clear hgt hbox hb)
   | ((with_reducible refine store_Te2 (.tmp 12) (.tmp 28) rfl rfl rfl rfl rfl rfl TB.out ?_); intro w9 hx1 hs1 hb1 hf1; have hbt := ALB.out.trans (hb1 _ (Nat.le_of_eq ALG.out.symm)); replace HB := aq_ (HB.out.trans (Below.mono hbt LB.out)); replace LB := aq_ (Nat.le_trans LB.out (Below.size hbt)); replace S4 := aq_ (blk_below S4.out hbt); replace S5 := aq_ (blk_below S5.out hbt); replace S6 := aq_ (blk_below S6.out hbt); replace S7 := aq_ (blk_below S7.out hbt); replace P10 := aq_ (blk_below P10.out hbt); replace V10 := aq_ (Kd.V_below V10.out hbt); replace V12 := aq_ (Kd.V_below V12.out hbt); have P12 := aq_ hx1; clear hx1 hs1 hb1 hf1 hbt ALB ALG TB))
  go_upto_region 5 with (first
   | (with_reducible refine load_S (.tmp 6) rfl rfl (p := ⟨g6, 0, none⟩) rfl (cells_box S6.out) ?_)
   | ((go_at_call 6; (with_reducible refine (key_any y _ HY1.out HY2.out).mono ?_)); rw [H3.out]; rintro e w7 ⟨vp, rfl, hV, hb⟩; obtain ⟨A14, c14, rfl⟩ := Kd.V_slice hV; replace HB := aq_ (HB.out.trans (Below.mono hb LB.out)); replace LB := aq_ (Nat.le_trans LB.out (Below.size hb)); replace S4 := aq_ (blk_below S4.out hb); replace S5 := aq_ (blk_below S5.out hb); replace S6 := aq_ (blk_below S6.out hb); replace S7 := aq_ (blk_below S7.out hb); replace P10 := aq_ (blk_below P10.out hb); replace P12 := aq_ (blk_below P12.out hb); replace V10 := aq_ (Kd.V_below V10.out hb); replace V12 := aq_ (Kd.V_below V12.out hb); have V14 := aq_ hV; clear hb hV)
   | ((with_reducible refine alloc_Te rfl rfl ?_); intro gt_ hgt w8 hbox hb; have ALB := aq_ hb; have ALG := aq_ hgt; have TB := aq_ hbox; clear hgt hbox hb)
   | ((with_reducible refine store_Te2 (.tmp 14) (.tmp 33) rfl rfl rfl rfl rfl rfl TB.out ?_); intro w9 hx1 hs1 hb1 hf1; have hbt := ALB.out.trans (hb1 _ (Nat.le_of_eq ALG.out.symm)); replace HB := aq_ (HB.out.trans (Below.mono hbt LB.out)); replace LB := aq_ (Nat.le_trans LB.out (Below.size hbt)); replace S4 := aq_ (blk_below S4.out hbt); replace S5 := aq_ (blk_below S5.out hbt); replace S6 := aq_ (blk_below S6.out hbt); replace S7 := aq_ (blk_below S7.out hbt); replace P10 := aq_ (blk_below P10.out hbt); replace P12 := aq_ (blk_below P12.out hbt); replace V10 := aq_ (Kd.V_below V10.out hbt); replace V12 := aq_ (Kd.V_below V12.out hbt); replace V14 := aq_ (Kd.V_below V14.out hbt); have P14 := aq_ hx1; clear hx1 hs1 hb1 hf1 hbt ALB ALG TB))
  obtain ⟨⟨p0, p1, p2⟩, _⟩ := cells3 P10.out
  obtain ⟨⟨r0, r1, r2⟩, _⟩ := cells3 P12.out
  obtain ⟨⟨k0, k1, k2⟩, _⟩ := cells3 P14.out
  obtain ⟨x0, x1, x2, x3, _⟩ := cellsS S4.out
  obtain ⟨y0, y1, y2, y3, _⟩ := cellsS S6.out
  go_wp2_with (first
   | ((go_at_call 7; (with_reducible refine (mayT_any (proofT x f) A10 c10 _ HSZ.out (told_C' (told_V V10.out)).2.2 (told_C' (told_V V10.out)).2.1).mono ?_)); rw [HMY.out]; rintro e w20 ⟨rfl, hb⟩; clear p0 p1 p2 r0 r1 r2 k0 k1 k2 x0 x1 x2 x3 y0 y1 y2 y3; replace HB := aq_ (HB.out.trans (Below.mono hb LB.out)); replace LB := aq_ (Nat.le_trans LB.out (Below.size hb)); replace S4 := aq_ (blk_below S4.out hb); replace S5 := aq_ (blk_below S5.out hb); replace S6 := aq_ (blk_below S6.out hb); replace S7 := aq_ (blk_below S7.out hb); replace P10 := aq_ (blk_below P10.out hb); replace P12 := aq_ (blk_below P12.out hb); replace P14 := aq_ (blk_below P14.out hb); replace V10 := aq_ (Kd.V_below V10.out hb); replace V12 := aq_ (Kd.V_below V12.out hb); replace V14 := aq_ (Kd.V_below V14.out hb); obtain ⟨⟨p0, p1, p2⟩, _⟩ := cells3 P10.out; obtain ⟨⟨r0, r1, r2⟩, _⟩ := cells3 P12.out; obtain ⟨⟨k0, k1, k2⟩, _⟩ := cells3 P14.out; obtain ⟨x0, x1, x2, x3, _⟩ := cellsS S4.out; obtain ⟨y0, y1, y2, y3, _⟩ := cellsS S6.out; clear hb)
   | ((go_at_call 8; (with_reducible refine (sizeT_any (proofT x f) A10 c10 _ HSZ.out (told_C' (told_V V10.out)).2.2 (told_C' (told_V V10.out)).2.1).mono ?_)); rw [HN.out]; rintro e w21 ⟨rfl, hb⟩; clear p0 p1 p2 r0 r1 r2 k0 k1 k2 x0 x1 x2 x3 y0 y1 y2 y3; replace HB := aq_ (HB.out.trans (Below.mono hb LB.out)); replace LB := aq_ (Nat.le_trans LB.out (Below.size hb)); replace S4 := aq_ (blk_below S4.out hb); replace S5 := aq_ (blk_below S5.out hb); replace S6 := aq_ (blk_below S6.out hb); replace S7 := aq_ (blk_below S7.out hb); replace P10 := aq_ (blk_below P10.out hb); replace P12 := aq_ (blk_below P12.out hb); replace P14 := aq_ (blk_below P14.out hb); replace V10 := aq_ (Kd.V_below V10.out hb); replace V12 := aq_ (Kd.V_below V12.out hb); replace V14 := aq_ (Kd.V_below V14.out hb); obtain ⟨⟨p0, p1, p2⟩, _⟩ := cells3 P10.out; obtain ⟨⟨r0, r1, r2⟩, _⟩ := cells3 P12.out; obtain ⟨⟨k0, k1, k2⟩, _⟩ := cells3 P14.out; obtain ⟨x0, x1, x2, x3, _⟩ := cellsS S4.out; obtain ⟨y0, y1, y2, y3, _⟩ := cellsS S6.out; clear hb)
   | ((go_at_call 9; (with_reducible refine (sameQ_any (proofT x f) (keyT y) A10 A14 c10 c14 _ (told_C' (told_V V10.out)).2.2 (told_C' (told_V V10.out)).2.1 (told_C' (told_V V14.out)).2.2 (told_C' (told_V V14.out)).2.1).mono ?_)); rw [(HK.out H3.out)]; rintro e w22 ⟨rfl, hb⟩; clear p0 p1 p2 r0 r1 r2 k0 k1 k2 x0 x1 x2 x3 y0 y1 y2 y3; replace HB := aq_ (HB.out.trans (Below.mono hb LB.out)); replace LB := aq_ (Nat.le_trans LB.out (Below.size hb)); replace S4 := aq_ (blk_below S4.out hb); replace S5 := aq_ (blk_below S5.out hb); replace S6 := aq_ (blk_below S6.out hb); replace S7 := aq_ (blk_below S7.out hb); replace P10 := aq_ (blk_below P10.out hb); replace P12 := aq_ (blk_below P12.out hb); replace P14 := aq_ (blk_below P14.out hb); replace V10 := aq_ (Kd.V_below V10.out hb); replace V12 := aq_ (Kd.V_below V12.out hb); replace V14 := aq_ (Kd.V_below V14.out hb); obtain ⟨⟨p0, p1, p2⟩, _⟩ := cells3 P10.out; obtain ⟨⟨r0, r1, r2⟩, _⟩ := cells3 P12.out; obtain ⟨⟨k0, k1, k2⟩, _⟩ := cells3 P14.out; obtain ⟨x0, x1, x2, x3, _⟩ := cellsS S4.out; obtain ⟨y0, y1, y2, y3, _⟩ := cellsS S6.out; clear hb))
  all_goals (go_ret; exact ⟨rfl, HB.out⟩)
set_option maxHeartbeats 16000000 in
theorem symproof_11 (haw : ∀ w : World, Calls Try.prog 4 #[] w fun e w' => e = .returned (.bool true) ∧ Below w.heap.size w w') (x : Ses) (f : Frm) (y : Ses) (g : Frm) (w : World) (hx : wfS x) (hf : wfF f) (hy : wfS y) (hg : wfF g) (h1 : isP x f = true) (h2 : isP y g = true) :
  Calls Try.prog 3 #[.agg (sca x), .agg (fca f), .agg (sca y), .agg (fca g)] w fun e w' => e = .returned (.bool true) ∧ Below w.heap.size w w' := by
 have hw := ways hx hf hy hg h1 h2
 cases h3 : hasS y
 all_goals rcases hw with ⟨t0, hs⟩ | ⟨t0, t1, hs⟩ | ⟨t0, t1, t2, hs⟩ | ⟨t0, t1, t2, t3, hs⟩ | ⟨t0, t1, t2, t3, heq, hs⟩ | ⟨t0, t1, t2, t3, heq, hs⟩
 all_goals as_aux_lemma =>
  have HX := aq_ hx
  have HF := aq_ hf
  have HY := aq_ hy
  have HY1 := aq_ (show 0 ≤ y.draw from hy.1)
  have HY2 := aq_ (show 0 ≤ y.cn from hy.2)
  have HG := aq_ hg
  have H1 := aq_ h1
  have H2 := aq_ h2
  have H3 := aq_ h3
  have HB := aq_ (Below.refl w.heap.size w)
  have LB := aq_ (Nat.le_refl w.heap.size)
  have HSZ := aq_ (show tsize (proofT x f) ≤ 1000000 from Nat.le_trans (proof_small hx hf h1).2.1 (by decide))
  have HMY := aq_ (proof_small hx hf h1).1
  obtain ⟨n0, hn0⟩ : ∃ n0, tsize (proofT x f) = n0 := ⟨_, rfl⟩
  have HN := aq_ hn0
  have hn1 : decide ((n0 : Int) > 19) = false := by have := (proof_small hx hf h1).2.1; simp; omega
  have hk0 : ((proofT x f).f0 != 3) = false := by rw [(proof_small hx hf h1).2.2]; rfl
  have HK := aq_ (proof_key hx hf hy h1)
  have HQ := aq_ hs
  clear hs
  clear hx hf hy hg h1 h2 h3
  go_enter Try.func3, Try.ntmps3
  go_upto_region 2 with (first
   | ((with_reducible refine box_Se (.tmp 0) (s := x) rfl rfl rfl ?_); intro g4 hg_ w1 hbox hb; replace HB := aq_ (HB.out.trans (Below.mono hb LB.out)); replace LB := aq_ (Nat.le_trans LB.out (Below.size hb)); have S4 := aq_ hbox; clear hg_ hbox hb)
   | ((with_reducible refine box_Fr (.tmp 1) (f := f) rfl rfl rfl ?_); intro g5 hg_ w1 hbox hb; replace HB := aq_ (HB.out.trans (Below.mono hb LB.out)); replace LB := aq_ (Nat.le_trans LB.out (Below.size hb)); replace S4 := aq_ (blk_below S4.out hb); have S5 := aq_ hbox; clear hg_ hbox hb)
   | ((with_reducible refine box_Se (.tmp 2) (s := y) rfl rfl rfl ?_); intro g6 hg_ w1 hbox hb; replace HB := aq_ (HB.out.trans (Below.mono hb LB.out)); replace LB := aq_ (Nat.le_trans LB.out (Below.size hb)); replace S4 := aq_ (blk_below S4.out hb); replace S5 := aq_ (blk_below S5.out hb); have S6 := aq_ hbox; clear hg_ hbox hb)
   | ((with_reducible refine box_Fr (.tmp 3) (f := g) rfl rfl rfl ?_); intro g7 hg_ w1 hbox hb; replace HB := aq_ (HB.out.trans (Below.mono hb LB.out)); replace LB := aq_ (Nat.le_trans LB.out (Below.size hb)); replace S4 := aq_ (blk_below S4.out hb); replace S5 := aq_ (blk_below S5.out hb); replace S6 := aq_ (blk_below S6.out hb); have S7 := aq_ hbox; clear hg_ hbox hb)
   | ((go_at_call 4; (with_reducible refine (haw _).mono ?_)); rintro e w2 ⟨rfl, hb⟩; replace HB := aq_ (HB.out.trans (Below.mono hb LB.out)); replace LB := aq_ (Nat.le_trans LB.out (Below.size hb)); replace S4 := aq_ (blk_below S4.out hb); replace S5 := aq_ (blk_below S5.out hb); replace S6 := aq_ (blk_below S6.out hb); replace S7 := aq_ (blk_below S7.out hb); clear hb))
  go_upto_region 3 with (first
   | (with_reducible refine load_S (.tmp 4) rfl rfl (p := ⟨g4, 0, none⟩) rfl (cells_box S4.out) ?_)
   | (with_reducible refine load_F (.tmp 5) rfl rfl (p := ⟨g5, 0, none⟩) rfl (cells_boxF S5.out) ?_)
   | ((go_at_call 5; (with_reducible refine (proof_any x f _ HX.out HF.out).mono ?_)); rw [H1.out]; rintro e w7 ⟨vp, rfl, hV, hb⟩; obtain ⟨A10, c10, rfl⟩ := Kd.V_slice hV; replace HB := aq_ (HB.out.trans (Below.mono hb LB.out)); replace LB := aq_ (Nat.le_trans LB.out (Below.size hb)); replace S4 := aq_ (blk_below S4.out hb); replace S5 := aq_ (blk_below S5.out hb); replace S6 := aq_ (blk_below S6.out hb); replace S7 := aq_ (blk_below S7.out hb); have V10 := aq_ hV; clear hb hV)
   | ((with_reducible refine alloc_Te rfl rfl ?_); intro gt_ hgt w8 hbox hb; have ALB := aq_ hb; have ALG := aq_ hgt; have TB := aq_ hbox; clear hgt hbox hb)
   | ((with_reducible refine store_Te2 (.tmp 10) (.tmp 22) rfl rfl rfl rfl rfl rfl TB.out ?_); intro w9 hx1 hs1 hb1 hf1; have hbt := ALB.out.trans (hb1 _ (Nat.le_of_eq ALG.out.symm)); replace HB := aq_ (HB.out.trans (Below.mono hbt LB.out)); replace LB := aq_ (Nat.le_trans LB.out (Below.size hbt)); replace S4 := aq_ (blk_below S4.out hbt); replace S5 := aq_ (blk_below S5.out hbt); replace S6 := aq_ (blk_below S6.out hbt); replace S7 := aq_ (blk_below S7.out hbt); replace V10 := aq_ (Kd.V_below V10.out hbt); have P10 := aq_ hx1; clear hx1 hs1 hb1 hf1 hbt ALB ALG TB))
  go_upto_region 4 with (first
   | (with_reducible refine load_S (.tmp 6) rfl rfl (p := ⟨g6, 0, none⟩) rfl (cells_box S6.out) ?_)
   | (with_reducible refine load_F (.tmp 7) rfl rfl (p := ⟨g7, 0, none⟩) rfl (cells_boxF S7.out) ?_)
   | ((go_at_call 5; (with_reducible refine (proof_any y g _ HY.out HG.out).mono ?_)); rw [H2.out]; rintro e w7 ⟨vp, rfl, hV, hb⟩; obtain ⟨A12, c12, rfl⟩ := Kd.V_slice hV; replace HB := aq_ (HB.out.trans (Below.mono hb LB.out)); replace LB := aq_ (Nat.le_trans LB.out (Below.size hb)); replace S4 := aq_ (blk_below S4.out hb); replace S5 := aq_ (blk_below S5.out hb); replace S6 := aq_ (blk_below S6.out hb); replace S7 := aq_ (blk_below S7.out hb); replace P10 := aq_ (blk_below P10.out hb); replace V10 := aq_ (Kd.V_below V10.out hb); have V12 := aq_ hV; clear hb hV)
   | ((with_reducible refine alloc_Te rfl rfl ?_); intro gt_ hgt w8 hbox hb; have ALB := aq_ hb; have ALG := aq_ hgt; have TB := aq_ hbox; clear hgt hbox hb)
   | ((with_reducible refine store_Te2 (.tmp 12) (.tmp 28) rfl rfl rfl rfl rfl rfl TB.out ?_); intro w9 hx1 hs1 hb1 hf1; have hbt := ALB.out.trans (hb1 _ (Nat.le_of_eq ALG.out.symm)); replace HB := aq_ (HB.out.trans (Below.mono hbt LB.out)); replace LB := aq_ (Nat.le_trans LB.out (Below.size hbt)); replace S4 := aq_ (blk_below S4.out hbt); replace S5 := aq_ (blk_below S5.out hbt); replace S6 := aq_ (blk_below S6.out hbt); replace S7 := aq_ (blk_below S7.out hbt); replace P10 := aq_ (blk_below P10.out hbt); replace V10 := aq_ (Kd.V_below V10.out hbt); replace V12 := aq_ (Kd.V_below V12.out hbt); have P12 := aq_ hx1; clear hx1 hs1 hb1 hf1 hbt ALB ALG TB))
  go_upto_region 5 with (first
   | (with_reducible refine load_S (.tmp 6) rfl rfl (p := ⟨g6, 0, none⟩) rfl (cells_box S6.out) ?_)
   | ((go_at_call 6; (with_reducible refine (key_any y _ HY1.out HY2.out).mono ?_)); rw [H3.out]; rintro e w7 ⟨vp, rfl, hV, hb⟩; obtain ⟨A14, c14, rfl⟩ := Kd.V_slice hV; replace HB := aq_ (HB.out.trans (Below.mono hb LB.out)); replace LB := aq_ (Nat.le_trans LB.out (Below.size hb)); replace S4 := aq_ (blk_below S4.out hb); replace S5 := aq_ (blk_below S5.out hb); replace S6 := aq_ (blk_below S6.out hb); replace S7 := aq_ (blk_below S7.out hb); replace P10 := aq_ (blk_below P10.out hb); replace P12 := aq_ (blk_below P12.out hb); replace V10 := aq_ (Kd.V_below V10.out hb); replace V12 := aq_ (Kd.V_below V12.out hb); have V14 := aq_ hV; clear hb hV)
   | ((with_reducible refine alloc_Te rfl rfl ?_); intro gt_ hgt w8 hbox hb; have ALB := aq_ hb; have ALG := aq_ hgt; have TB := aq_ hbox; clear hgt hbox hb)
   | ((with_reducible refine store_Te2 (.tmp 14) (.tmp 33) rfl rfl rfl rfl rfl rfl TB.out ?_); intro w9 hx1 hs1 hb1 hf1; have hbt := ALB.out.trans (hb1 _ (Nat.le_of_eq ALG.out.symm)); replace HB := aq_ (HB.out.trans (Below.mono hbt LB.out)); replace LB := aq_ (Nat.le_trans LB.out (Below.size hbt)); replace S4 := aq_ (blk_below S4.out hbt); replace S5 := aq_ (blk_below S5.out hbt); replace S6 := aq_ (blk_below S6.out hbt); replace S7 := aq_ (blk_below S7.out hbt); replace P10 := aq_ (blk_below P10.out hbt); replace P12 := aq_ (blk_below P12.out hbt); replace V10 := aq_ (Kd.V_below V10.out hbt); replace V12 := aq_ (Kd.V_below V12.out hbt); replace V14 := aq_ (Kd.V_below V14.out hbt); have P14 := aq_ hx1; clear hx1 hs1 hb1 hf1 hbt ALB ALG TB))
  obtain ⟨⟨p0, p1, p2⟩, _⟩ := cells3 P10.out
  obtain ⟨⟨r0, r1, r2⟩, _⟩ := cells3 P12.out
  obtain ⟨⟨k0, k1, k2⟩, _⟩ := cells3 P14.out
  obtain ⟨x0, x1, x2, x3, _⟩ := cellsS S4.out
  obtain ⟨y0, y1, y2, y3, _⟩ := cellsS S6.out
  go_wp2_with (first
   | ((go_at_call 7; (with_reducible refine (mayT_any (proofT x f) A10 c10 _ HSZ.out (told_C' (told_V V10.out)).2.2 (told_C' (told_V V10.out)).2.1).mono ?_)); rw [HMY.out]; rintro e w20 ⟨rfl, hb⟩; clear p0 p1 p2 r0 r1 r2 k0 k1 k2 x0 x1 x2 x3 y0 y1 y2 y3; replace HB := aq_ (HB.out.trans (Below.mono hb LB.out)); replace LB := aq_ (Nat.le_trans LB.out (Below.size hb)); replace S4 := aq_ (blk_below S4.out hb); replace S5 := aq_ (blk_below S5.out hb); replace S6 := aq_ (blk_below S6.out hb); replace S7 := aq_ (blk_below S7.out hb); replace P10 := aq_ (blk_below P10.out hb); replace P12 := aq_ (blk_below P12.out hb); replace P14 := aq_ (blk_below P14.out hb); replace V10 := aq_ (Kd.V_below V10.out hb); replace V12 := aq_ (Kd.V_below V12.out hb); replace V14 := aq_ (Kd.V_below V14.out hb); obtain ⟨⟨p0, p1, p2⟩, _⟩ := cells3 P10.out; obtain ⟨⟨r0, r1, r2⟩, _⟩ := cells3 P12.out; obtain ⟨⟨k0, k1, k2⟩, _⟩ := cells3 P14.out; obtain ⟨x0, x1, x2, x3, _⟩ := cellsS S4.out; obtain ⟨y0, y1, y2, y3, _⟩ := cellsS S6.out; clear hb)
   | ((go_at_call 8; (with_reducible refine (sizeT_any (proofT x f) A10 c10 _ HSZ.out (told_C' (told_V V10.out)).2.2 (told_C' (told_V V10.out)).2.1).mono ?_)); rw [HN.out]; rintro e w21 ⟨rfl, hb⟩; clear p0 p1 p2 r0 r1 r2 k0 k1 k2 x0 x1 x2 x3 y0 y1 y2 y3; replace HB := aq_ (HB.out.trans (Below.mono hb LB.out)); replace LB := aq_ (Nat.le_trans LB.out (Below.size hb)); replace S4 := aq_ (blk_below S4.out hb); replace S5 := aq_ (blk_below S5.out hb); replace S6 := aq_ (blk_below S6.out hb); replace S7 := aq_ (blk_below S7.out hb); replace P10 := aq_ (blk_below P10.out hb); replace P12 := aq_ (blk_below P12.out hb); replace P14 := aq_ (blk_below P14.out hb); replace V10 := aq_ (Kd.V_below V10.out hb); replace V12 := aq_ (Kd.V_below V12.out hb); replace V14 := aq_ (Kd.V_below V14.out hb); obtain ⟨⟨p0, p1, p2⟩, _⟩ := cells3 P10.out; obtain ⟨⟨r0, r1, r2⟩, _⟩ := cells3 P12.out; obtain ⟨⟨k0, k1, k2⟩, _⟩ := cells3 P14.out; obtain ⟨x0, x1, x2, x3, _⟩ := cellsS S4.out; obtain ⟨y0, y1, y2, y3, _⟩ := cellsS S6.out; clear hb)
   | ((go_at_call 9; (with_reducible refine (sameQ_any (proofT x f) (keyT y) A10 A14 c10 c14 _ (told_C' (told_V V10.out)).2.2 (told_C' (told_V V10.out)).2.1 (told_C' (told_V V14.out)).2.2 (told_C' (told_V V14.out)).2.1).mono ?_)); rw [(HK.out H3.out)]; rintro e w22 ⟨rfl, hb⟩; clear p0 p1 p2 r0 r1 r2 k0 k1 k2 x0 x1 x2 x3 y0 y1 y2 y3; replace HB := aq_ (HB.out.trans (Below.mono hb LB.out)); replace LB := aq_ (Nat.le_trans LB.out (Below.size hb)); replace S4 := aq_ (blk_below S4.out hb); replace S5 := aq_ (blk_below S5.out hb); replace S6 := aq_ (blk_below S6.out hb); replace S7 := aq_ (blk_below S7.out hb); replace P10 := aq_ (blk_below P10.out hb); replace P12 := aq_ (blk_below P12.out hb); replace P14 := aq_ (blk_below P14.out hb); replace V10 := aq_ (Kd.V_below V10.out hb); replace V12 := aq_ (Kd.V_below V12.out hb); replace V14 := aq_ (Kd.V_below V14.out hb); obtain ⟨⟨p0, p1, p2⟩, _⟩ := cells3 P10.out; obtain ⟨⟨r0, r1, r2⟩, _⟩ := cells3 P12.out; obtain ⟨⟨k0, k1, k2⟩, _⟩ := cells3 P14.out; obtain ⟨x0, x1, x2, x3, _⟩ := cellsS S4.out; obtain ⟨y0, y1, y2, y3, _⟩ := cellsS S6.out; clear hb)
   | ((go_at_call 9; (with_reducible refine (sameQ_any (proofT x f) (proofT y g) A10 A12 c10 c12 _ (told_C' (told_V V10.out)).2.2 (told_C' (told_V V10.out)).2.1 (told_C' (told_V V12.out)).2.2 (told_C' (told_V V12.out)).2.1).mono ?_)); rw [HQ.out]; rintro e w23 ⟨rfl, hb⟩; clear p0 p1 p2 r0 r1 r2 k0 k1 k2 x0 x1 x2 x3 y0 y1 y2 y3; replace HB := aq_ (HB.out.trans (Below.mono hb LB.out)); replace LB := aq_ (Nat.le_trans LB.out (Below.size hb)); replace S4 := aq_ (blk_below S4.out hb); replace S5 := aq_ (blk_below S5.out hb); replace S6 := aq_ (blk_below S6.out hb); replace S7 := aq_ (blk_below S7.out hb); replace P10 := aq_ (blk_below P10.out hb); replace P12 := aq_ (blk_below P12.out hb); replace P14 := aq_ (blk_below P14.out hb); replace V10 := aq_ (Kd.V_below V10.out hb); replace V12 := aq_ (Kd.V_below V12.out hb); replace V14 := aq_ (Kd.V_below V14.out hb); obtain ⟨⟨p0, p1, p2⟩, _⟩ := cells3 P10.out; obtain ⟨⟨r0, r1, r2⟩, _⟩ := cells3 P12.out; obtain ⟨⟨k0, k1, k2⟩, _⟩ := cells3 P14.out; obtain ⟨x0, x1, x2, x3, _⟩ := cellsS S4.out; obtain ⟨y0, y1, y2, y3, _⟩ := cellsS S6.out; clear hb)
   | ((with_reducible refine gate_load 28 (.tmp 5) rfl ?_); refine load_Fw (.tmp 5) rfl (by rfl) (p := ⟨g5, 0, none⟩) rfl (cells_boxF S5.out) ?_)
   | ((with_reducible refine gate_load 28 (.tmp 7) rfl ?_); refine load_Fw (.tmp 7) rfl (by rfl) (p := ⟨g7, 0, none⟩) rfl (cells_boxF S7.out) ?_))
  all_goals (go_ret; exact ⟨rfl, HB.out⟩)
theorem symproof_of (haw : ∀ w : World, Calls Try.prog 4 #[] w fun e w' => e = .returned (.bool true) ∧ Below w.heap.size w w') (x : Ses) (f : Frm) (y : Ses) (g : Frm) (w : World) (hx : wfS x) (hf : wfF f) (hy : wfS y) (hg : wfF g) :
  Calls Try.prog 3 #[.agg (sca x), .agg (fca f), .agg (sca y), .agg (fca g)] w fun e w' => e = .returned (.bool true) ∧ Below w.heap.size w w' := by
 cases h1 : isP x f
 ·exact symproof_0 haw x f y g w hx hf hy hg h1
 cases h2 : isP y g
 ·exact symproof_10 haw x f y g w hx hf hy hg h1 h2
 ·exact symproof_11 haw x f y g w hx hf hy hg h1 h2
end Go.Proofs.Ytdinphnljokigaa.P
end
