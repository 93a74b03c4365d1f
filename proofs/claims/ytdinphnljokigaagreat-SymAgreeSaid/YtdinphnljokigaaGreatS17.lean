/- What LawSymAgree rests on, part 17: several texts put together. -/
import Derived.Test.YtdinphnljokigaaGreatS16
import Derived.Test.YtdinphnljokigaaGreatS3
set_option linter.unusedVariables false
set_option linter.unnecessarySimpa false
set_option linter.unusedSimpArgs false
set_option maxRecDepth 100000
section
namespace Go.Proofs.YtdinphnljokigaaGreat.P
open Go.RowKit Go.Lib Go.Proofs.YtdinphnljokigaaGreatW.PrintWords Go.Proofs.YtdinphnljokigaaGreatW.PrintLast Go.Proofs.YtdinphnljokigaaGreatW.PrintMore
theorem run_boxSe (w : World) (s : Ses) : (Instr.box 33 (.agg (sca s))).run Tryz.prog w = .ok (.pointer (some ⟨w.heap.size, 0, none⟩)) (w.alloc (.cells (sca s) 33)) := by kernel_rfl
theorem run_allocT (w : World) : (Instr.alloc 36 true (.tuple #[])).run Tryz.prog w = .ok (.pointer (some ⟨w.heap.size, 0, none⟩)) (w.alloc (.cells #[.int .i64 0, .int .i64 0, .slice none 0 0] 36)) := by kernel_rfl
section
variable {ops : Array Oper} {rest : List Oper} {o : Oper} {a : Act} {w : World} {Q : Exit → Act → World → Prop}
theorem box_Se (x : Operand) {s : Ses} (ho : o.op = .box 33 x) (hgd : o.guard = none) (hx : a.eval x = .agg (sca s)) (h : ∀ g, g = w.heap.size → ∀ w1 : World, w1.heap[g]? = some (.cells (sca s) 33 (0, 0)) → Below w.heap.size w w1 → wpList Tryz.prog ops Q rest (a.put o.dst (.pointer (some ⟨g, 0, none⟩))) w1) : wpList Tryz.prog ops Q (o :: rest) a w := by
 refine Kd.event_run hgd (v := .pointer (some ⟨w.heap.size, 0, none⟩)) ?_ (h _ rfl (w.alloc (.cells (sca s) 33)) (blk_new w _) (below_alloc (Below.refl _ _) _))
 unfold execOp
 simp only [ho, hx, Sem.run_bind, run_boxSe, Result.andThen_ok, Sem.run_pure]
theorem alloc_Te (ho : o.op = .alloc 36) (hgd : o.guard = none) (h : ∀ g, g = w.heap.size → ∀ w1 : World, w1.heap[g]? = some (.cells #[.int .i64 0, .int .i64 0, .slice none 0 0] 36 (0, 0)) → Below w.heap.size w w1 → wpList Tryz.prog ops Q rest (a.put o.dst (.pointer (some ⟨g, 0, none⟩))) w1) : wpList Tryz.prog ops Q (o :: rest) a w := by
 refine Kd.event_run hgd (v := .pointer (some ⟨w.heap.size, 0, none⟩)) ?_ (h _ rfl (w.alloc (.cells #[.int .i64 0, .int .i64 0, .slice none 0 0] 36)) (blk_new w _) (below_alloc (Below.refl _ _) _))
 unfold execOp
 simp only [ho, Sem.run_bind, run_allocT, Result.andThen_ok, Sem.run_pure]
end
def okP (x : Ses) (f : Frm) : Bool := hasS x && (bareB f && ((f.sess == x.draw) && decide (f.count < 4611686018427387904)))
def isP (x : Ses) (f : Frm) : Bool := okP x f && (f.kind == 2 || f.kind == 4)
def proofT (x : Ses) (f : Frm) : S24 := if isP x f = true then (if f.kind = 2 then tagT (keyT x) [f.kind, f.sess] else tagT (keyT x) [f.kind, f.sess, f.count, f.cmd, f.arg]) else z24
def wfS (x : Ses) : Prop := 0 ≤ x.draw ∧ 0 ≤ x.cn
set_option maxHeartbeats 2000000 in
theorem proof_0 (x : Ses) (f : Frm) (w : World) (hd : wfS x) (hw : wfF f) (hh : hasS x = false) :
  Calls Tryz.prog 18 #[.agg (sca x), .agg (fca f)] w fun e w' => e = .returned (.tuple #[.agg #[.int .i64 0, .int .i64 0, .slice none 0 0], .bool false]) ∧ Below w.heap.size w w' := by
 have HD1 := aq_ hd.1
 have HD2 := aq_ hd.2
 have HW := aq_ hw
 clear hd hw
 have HB := aq_ (Below.refl w.heap.size w)
 go_enter Tryz.func18, Tryz.ntmps18
 go_upto_region 1 with (first
  | (with_reducible refine box_Se (.tmp 0) (s := x) rfl rfl rfl ?_; intro gx hg w1 hbox hb; have HB1 := aq_ (below_step HB.out hb); have X1 := aq_ hbox; have LX := aq_ (Nat.le_of_eq hg.symm); clear hg hbox hb HB)
  | (with_reducible refine box_Fr (.tmp 1) (f := f) rfl rfl rfl ?_; intro gf hg w2 hbox hb; have HB2 := aq_ (below_step HB1.out hb); have F1 := aq_ hbox; have X2 := aq_ (blk_below X1.out hb); have LF := aq_ (show gx < gf by rw [hg]; exact blk_lt X1.out); clear hg hbox hb HB1 X1)
  | (with_reducible refine alloc_Te rfl rfl ?_; intro gt hg w3 hbox hb; have HB3 := aq_ (below_step HB2.out hb); have T1 := aq_ hbox; have F2 := aq_ (blk_below F1.out hb); have X3 := aq_ (blk_below X2.out hb); have LT := aq_ (show gf < gt by rw [hg]; exact blk_lt F1.out); clear hg hbox hb HB2 F1 X2))
 go_upto_region 2 with (first
  | (with_reducible refine load_S (.tmp 2) rfl rfl (p := ⟨gx, 0, none⟩) rfl (cells_box X3.out) ?_)
  | (go_at_call 21; (with_reducible refine (key_any x _ HD1.out HD2.out).mono ?_); rintro e w4 ⟨v4, rfl, hV, hb⟩; obtain ⟨Ak, ck, rfl⟩ := Kd.V_slice hV; have HV := aq_ hV; have HB4 := aq_ (below_step HB3.out hb); have T2 := aq_ (blk_below T1.out hb); have F3 := aq_ (blk_below F2.out hb); have X4 := aq_ (blk_below X3.out hb); have LK := aq_ (show gt < w3.heap.size from blk_lt T1.out); have LS := aq_ hb.size; clear hV hb HB3 T1 F2 X3))
 obtain ⟨W, hW⟩ : ∃ W, W = w4.alloc (.cells #[.int .i64 (keyT x).f0, .int .i64 (keyT x).f1, .slice Ak (keyT x).f2.length ck] 36) := ⟨_, rfl⟩
 rw [← hW]
 have K0 := aq_ (show W.heap[w4.heap.size]? = some (.cells #[.int .i64 (keyT x).f0, .int .i64 (keyT x).f1, .slice Ak (keyT x).f2.length ck] 36 (0, 0)) by rw [hW]; exact blk_new _ _)
 have hbW : Below w4.heap.size w4 W := by rw [hW]; exact below_alloc (Below.refl _ _) _
 clear hW
 have HB5 := aq_ (below_step HB4.out hbW)
 have T3 := aq_ (blk_below T2.out hbW)
 have F4 := aq_ (blk_below F3.out hbW)
 have X5 := aq_ (blk_below X4.out hbW)
 have HV5 := aq_ (Kd.V_below HV.out hbW)
 have LW := aq_ (blk_lt K0.out)
 clear hbW HB4 T2 F3 X4 HV
 obtain ⟨cx0, cx1, cx2, cx3, _⟩ := cellsS X5.out
 obtain ⟨cf0, cf1, cf2, cf3, cf4, cf5, cf6, cf7⟩ := cellsF F4.out
 obtain ⟨⟨ck0, ck1, ck2⟩, _⟩ := cells3 K0.out
 obtain ⟨⟨r0, r1, r2⟩, fr0, fr1, fr2⟩ := cells3 T3.out
 go_wp2
 refine bodyPost_ret (v := .tuple #[.agg #[.int .i64 0, .int .i64 0, .slice none 0 0], .bool false]) (ret_3t rfl (g := gt) rfl rfl (put_3 T3.out)) rfl ⟨rfl, below_put3 HB5.out (Nat.le_trans LX.out (Nat.le_of_lt (Nat.lt_trans LF.out LT.out))) _ _ _⟩
set_option maxHeartbeats 2000000 in
theorem proof_1 (x : Ses) (f : Frm) (w : World) (hd : wfS x) (hw : wfF f) (hh : hasS x = true) (hn : bareB f = false) :
  Calls Tryz.prog 18 #[.agg (sca x), .agg (fca f)] w fun e w' => e = .returned (.tuple #[.agg #[.int .i64 0, .int .i64 0, .slice none 0 0], .bool false]) ∧ Below w.heap.size w w' := by
 have HD1 := aq_ hd.1
 have HD2 := aq_ hd.2
 have HW := aq_ hw
 have HN := aq_ hn
 clear hn
 clear hd hw
 have HB := aq_ (Below.refl w.heap.size w)
 go_enter Tryz.func18, Tryz.ntmps18
 go_upto_region 1 with (first
  | (with_reducible refine box_Se (.tmp 0) (s := x) rfl rfl rfl ?_; intro gx hg w1 hbox hb; have HB1 := aq_ (below_step HB.out hb); have X1 := aq_ hbox; have LX := aq_ (Nat.le_of_eq hg.symm); clear hg hbox hb HB)
  | (with_reducible refine box_Fr (.tmp 1) (f := f) rfl rfl rfl ?_; intro gf hg w2 hbox hb; have HB2 := aq_ (below_step HB1.out hb); have F1 := aq_ hbox; have X2 := aq_ (blk_below X1.out hb); have LF := aq_ (show gx < gf by rw [hg]; exact blk_lt X1.out); clear hg hbox hb HB1 X1)
  | (with_reducible refine alloc_Te rfl rfl ?_; intro gt hg w3 hbox hb; have HB3 := aq_ (below_step HB2.out hb); have T1 := aq_ hbox; have F2 := aq_ (blk_below F1.out hb); have X3 := aq_ (blk_below X2.out hb); have LT := aq_ (show gf < gt by rw [hg]; exact blk_lt F1.out); clear hg hbox hb HB2 F1 X2))
 go_upto_region 2 with (first
  | (with_reducible refine load_S (.tmp 2) rfl rfl (p := ⟨gx, 0, none⟩) rfl (cells_box X3.out) ?_)
  | (go_at_call 21; (with_reducible refine (key_any x _ HD1.out HD2.out).mono ?_); rintro e w4 ⟨v4, rfl, hV, hb⟩; obtain ⟨Ak, ck, rfl⟩ := Kd.V_slice hV; have HV := aq_ hV; have HB4 := aq_ (below_step HB3.out hb); have T2 := aq_ (blk_below T1.out hb); have F3 := aq_ (blk_below F2.out hb); have X4 := aq_ (blk_below X3.out hb); have LK := aq_ (show gt < w3.heap.size from blk_lt T1.out); have LS := aq_ hb.size; clear hV hb HB3 T1 F2 X3))
 obtain ⟨W, hW⟩ : ∃ W, W = w4.alloc (.cells #[.int .i64 (keyT x).f0, .int .i64 (keyT x).f1, .slice Ak (keyT x).f2.length ck] 36) := ⟨_, rfl⟩
 rw [← hW]
 have K0 := aq_ (show W.heap[w4.heap.size]? = some (.cells #[.int .i64 (keyT x).f0, .int .i64 (keyT x).f1, .slice Ak (keyT x).f2.length ck] 36 (0, 0)) by rw [hW]; exact blk_new _ _)
 have hbW : Below w4.heap.size w4 W := by rw [hW]; exact below_alloc (Below.refl _ _) _
 clear hW
 have HB5 := aq_ (below_step HB4.out hbW)
 have T3 := aq_ (blk_below T2.out hbW)
 have F4 := aq_ (blk_below F3.out hbW)
 have X5 := aq_ (blk_below X4.out hbW)
 have HV5 := aq_ (Kd.V_below HV.out hbW)
 have LW := aq_ (blk_lt K0.out)
 clear hbW HB4 T2 F3 X4 HV
 obtain ⟨cx0, cx1, cx2, cx3, _⟩ := cellsS X5.out
 obtain ⟨cf0, cf1, cf2, cf3, cf4, cf5, cf6, cf7⟩ := cellsF F4.out
 obtain ⟨⟨ck0, ck1, ck2⟩, _⟩ := cells3 K0.out
 go_wp2_with (first
  | ((with_reducible refine gate_dst (N := 16) rfl ?_); (refine gate_guard (by rfl) ?_; dsimp only); (with_reducible refine load_F (.tmp 3) rfl rfl (p := ⟨gf, 0, none⟩) rfl (cells_boxF F4.out) ?_))
  | (go_at_call 35; (with_reducible refine (sbare_any f _ HW.out).mono ?_); rw [HN.out]; rintro e w6 ⟨rfl, hb⟩; have HB6 := aq_ (below_step HB5.out hb); have T4 := aq_ (blk_below T3.out hb); have F5 := aq_ (blk_below F4.out hb); have X6 := aq_ (blk_below X5.out hb); have K1 := aq_ (blk_below K0.out hb); have HV6 := aq_ (Kd.V_below HV5.out hb); have LW6 := aq_ (Nat.lt_of_lt_of_le LW.out hb.size); obtain ⟨cx0, cx1, cx2, cx3, _⟩ := cellsS X6.out; obtain ⟨cf0, cf1, cf2, cf3, cf4, cf5, cf6, cf7⟩ := cellsF F5.out; obtain ⟨⟨ck0, ck1, ck2⟩, _⟩ := cells3 K1.out; obtain ⟨⟨r0, r1, r2⟩, fr0, fr1, fr2⟩ := cells3 T4.out; clear hb))
 refine bodyPost_ret (v := .tuple #[.agg #[.int .i64 0, .int .i64 0, .slice none 0 0], .bool false]) (ret_3t rfl (g := gt) rfl rfl (put_3 T4.out)) rfl ⟨rfl, below_put3 HB6.out (Nat.le_trans LX.out (Nat.le_of_lt (Nat.lt_trans LF.out LT.out))) _ _ _⟩
set_option maxHeartbeats 2000000 in
theorem proof_2 (x : Ses) (f : Frm) (w : World) (hd : wfS x) (hw : wfF f) (hh : hasS x = true) (hn : bareB f = true) (h1 : (f.sess == x.draw) = false) :
  Calls Tryz.prog 18 #[.agg (sca x), .agg (fca f)] w fun e w' => e = .returned (.tuple #[.agg #[.int .i64 0, .int .i64 0, .slice none 0 0], .bool false]) ∧ Below w.heap.size w w' := by
 have HD1 := aq_ hd.1
 have HD2 := aq_ hd.2
 have HW := aq_ hw
 have HN := aq_ hn
 have hne : (f.sess != x.draw) = true := by rw [bne, h1]; rfl
 clear hn h1
 clear hd hw
 have HB := aq_ (Below.refl w.heap.size w)
 go_enter Tryz.func18, Tryz.ntmps18
 go_upto_region 1 with (first
  | (with_reducible refine box_Se (.tmp 0) (s := x) rfl rfl rfl ?_; intro gx hg w1 hbox hb; have HB1 := aq_ (below_step HB.out hb); have X1 := aq_ hbox; have LX := aq_ (Nat.le_of_eq hg.symm); clear hg hbox hb HB)
  | (with_reducible refine box_Fr (.tmp 1) (f := f) rfl rfl rfl ?_; intro gf hg w2 hbox hb; have HB2 := aq_ (below_step HB1.out hb); have F1 := aq_ hbox; have X2 := aq_ (blk_below X1.out hb); have LF := aq_ (show gx < gf by rw [hg]; exact blk_lt X1.out); clear hg hbox hb HB1 X1)
  | (with_reducible refine alloc_Te rfl rfl ?_; intro gt hg w3 hbox hb; have HB3 := aq_ (below_step HB2.out hb); have T1 := aq_ hbox; have F2 := aq_ (blk_below F1.out hb); have X3 := aq_ (blk_below X2.out hb); have LT := aq_ (show gf < gt by rw [hg]; exact blk_lt F1.out); clear hg hbox hb HB2 F1 X2))
 go_upto_region 2 with (first
  | (with_reducible refine load_S (.tmp 2) rfl rfl (p := ⟨gx, 0, none⟩) rfl (cells_box X3.out) ?_)
  | (go_at_call 21; (with_reducible refine (key_any x _ HD1.out HD2.out).mono ?_); rintro e w4 ⟨v4, rfl, hV, hb⟩; obtain ⟨Ak, ck, rfl⟩ := Kd.V_slice hV; have HV := aq_ hV; have HB4 := aq_ (below_step HB3.out hb); have T2 := aq_ (blk_below T1.out hb); have F3 := aq_ (blk_below F2.out hb); have X4 := aq_ (blk_below X3.out hb); have LK := aq_ (show gt < w3.heap.size from blk_lt T1.out); have LS := aq_ hb.size; clear hV hb HB3 T1 F2 X3))
 obtain ⟨W, hW⟩ : ∃ W, W = w4.alloc (.cells #[.int .i64 (keyT x).f0, .int .i64 (keyT x).f1, .slice Ak (keyT x).f2.length ck] 36) := ⟨_, rfl⟩
 rw [← hW]
 have K0 := aq_ (show W.heap[w4.heap.size]? = some (.cells #[.int .i64 (keyT x).f0, .int .i64 (keyT x).f1, .slice Ak (keyT x).f2.length ck] 36 (0, 0)) by rw [hW]; exact blk_new _ _)
 have hbW : Below w4.heap.size w4 W := by rw [hW]; exact below_alloc (Below.refl _ _) _
 clear hW
 have HB5 := aq_ (below_step HB4.out hbW)
 have T3 := aq_ (blk_below T2.out hbW)
 have F4 := aq_ (blk_below F3.out hbW)
 have X5 := aq_ (blk_below X4.out hbW)
 have HV5 := aq_ (Kd.V_below HV.out hbW)
 have LW := aq_ (blk_lt K0.out)
 clear hbW HB4 T2 F3 X4 HV
 obtain ⟨cx0, cx1, cx2, cx3, _⟩ := cellsS X5.out
 obtain ⟨cf0, cf1, cf2, cf3, cf4, cf5, cf6, cf7⟩ := cellsF F4.out
 obtain ⟨⟨ck0, ck1, ck2⟩, _⟩ := cells3 K0.out
 go_wp2_with (first
  | ((with_reducible refine gate_dst (N := 16) rfl ?_); (refine gate_guard (by rfl) ?_; dsimp only); (with_reducible refine load_F (.tmp 3) rfl rfl (p := ⟨gf, 0, none⟩) rfl (cells_boxF F4.out) ?_))
  | (go_at_call 35; (with_reducible refine (sbare_any f _ HW.out).mono ?_); rw [HN.out]; rintro e w6 ⟨rfl, hb⟩; have HB6 := aq_ (below_step HB5.out hb); have T4 := aq_ (blk_below T3.out hb); have F5 := aq_ (blk_below F4.out hb); have X6 := aq_ (blk_below X5.out hb); have K1 := aq_ (blk_below K0.out hb); have HV6 := aq_ (Kd.V_below HV5.out hb); have LW6 := aq_ (Nat.lt_of_lt_of_le LW.out hb.size); obtain ⟨cx0, cx1, cx2, cx3, _⟩ := cellsS X6.out; obtain ⟨cf0, cf1, cf2, cf3, cf4, cf5, cf6, cf7⟩ := cellsF F5.out; obtain ⟨⟨ck0, ck1, ck2⟩, _⟩ := cells3 K1.out; obtain ⟨⟨r0, r1, r2⟩, fr0, fr1, fr2⟩ := cells3 T4.out; clear hb))
 refine bodyPost_ret (v := .tuple #[.agg #[.int .i64 0, .int .i64 0, .slice none 0 0], .bool false]) (ret_3t rfl (g := gt) rfl rfl (put_3 T4.out)) rfl ⟨rfl, below_put3 HB6.out (Nat.le_trans LX.out (Nat.le_of_lt (Nat.lt_trans LF.out LT.out))) _ _ _⟩
set_option maxHeartbeats 2000000 in
theorem proof_3 (x : Ses) (f : Frm) (w : World) (hd : wfS x) (hw : wfF f) (hh : hasS x = true) (hn : bareB f = true) (h1 : (f.sess == x.draw) = true) (h2 : decide (4611686018427387904 ≤ f.count) = true) :
  Calls Tryz.prog 18 #[.agg (sca x), .agg (fca f)] w fun e w' => e = .returned (.tuple #[.agg #[.int .i64 0, .int .i64 0, .slice none 0 0], .bool false]) ∧ Below w.heap.size w w' := by
 have HD1 := aq_ hd.1
 have HD2 := aq_ hd.2
 have HW := aq_ hw
 have HN := aq_ hn
 have hne : (f.sess != x.draw) = false := by rw [bne, h1]; rfl
 clear hn h1
 clear hd hw
 have HB := aq_ (Below.refl w.heap.size w)
 go_enter Tryz.func18, Tryz.ntmps18
 go_upto_region 1 with (first
  | (with_reducible refine box_Se (.tmp 0) (s := x) rfl rfl rfl ?_; intro gx hg w1 hbox hb; have HB1 := aq_ (below_step HB.out hb); have X1 := aq_ hbox; have LX := aq_ (Nat.le_of_eq hg.symm); clear hg hbox hb HB)
  | (with_reducible refine box_Fr (.tmp 1) (f := f) rfl rfl rfl ?_; intro gf hg w2 hbox hb; have HB2 := aq_ (below_step HB1.out hb); have F1 := aq_ hbox; have X2 := aq_ (blk_below X1.out hb); have LF := aq_ (show gx < gf by rw [hg]; exact blk_lt X1.out); clear hg hbox hb HB1 X1)
  | (with_reducible refine alloc_Te rfl rfl ?_; intro gt hg w3 hbox hb; have HB3 := aq_ (below_step HB2.out hb); have T1 := aq_ hbox; have F2 := aq_ (blk_below F1.out hb); have X3 := aq_ (blk_below X2.out hb); have LT := aq_ (show gf < gt by rw [hg]; exact blk_lt F1.out); clear hg hbox hb HB2 F1 X2))
 go_upto_region 2 with (first
  | (with_reducible refine load_S (.tmp 2) rfl rfl (p := ⟨gx, 0, none⟩) rfl (cells_box X3.out) ?_)
  | (go_at_call 21; (with_reducible refine (key_any x _ HD1.out HD2.out).mono ?_); rintro e w4 ⟨v4, rfl, hV, hb⟩; obtain ⟨Ak, ck, rfl⟩ := Kd.V_slice hV; have HV := aq_ hV; have HB4 := aq_ (below_step HB3.out hb); have T2 := aq_ (blk_below T1.out hb); have F3 := aq_ (blk_below F2.out hb); have X4 := aq_ (blk_below X3.out hb); have LK := aq_ (show gt < w3.heap.size from blk_lt T1.out); have LS := aq_ hb.size; clear hV hb HB3 T1 F2 X3))
 obtain ⟨W, hW⟩ : ∃ W, W = w4.alloc (.cells #[.int .i64 (keyT x).f0, .int .i64 (keyT x).f1, .slice Ak (keyT x).f2.length ck] 36) := ⟨_, rfl⟩
 rw [← hW]
 have K0 := aq_ (show W.heap[w4.heap.size]? = some (.cells #[.int .i64 (keyT x).f0, .int .i64 (keyT x).f1, .slice Ak (keyT x).f2.length ck] 36 (0, 0)) by rw [hW]; exact blk_new _ _)
 have hbW : Below w4.heap.size w4 W := by rw [hW]; exact below_alloc (Below.refl _ _) _
 clear hW
 have HB5 := aq_ (below_step HB4.out hbW)
 have T3 := aq_ (blk_below T2.out hbW)
 have F4 := aq_ (blk_below F3.out hbW)
 have X5 := aq_ (blk_below X4.out hbW)
 have HV5 := aq_ (Kd.V_below HV.out hbW)
 have LW := aq_ (blk_lt K0.out)
 clear hbW HB4 T2 F3 X4 HV
 obtain ⟨cx0, cx1, cx2, cx3, _⟩ := cellsS X5.out
 obtain ⟨cf0, cf1, cf2, cf3, cf4, cf5, cf6, cf7⟩ := cellsF F4.out
 obtain ⟨⟨ck0, ck1, ck2⟩, _⟩ := cells3 K0.out
 go_wp2_with (first
  | ((with_reducible refine gate_dst (N := 16) rfl ?_); (refine gate_guard (by rfl) ?_; dsimp only); (with_reducible refine load_F (.tmp 3) rfl rfl (p := ⟨gf, 0, none⟩) rfl (cells_boxF F4.out) ?_))
  | (go_at_call 35; (with_reducible refine (sbare_any f _ HW.out).mono ?_); rw [HN.out]; rintro e w6 ⟨rfl, hb⟩; have HB6 := aq_ (below_step HB5.out hb); have T4 := aq_ (blk_below T3.out hb); have F5 := aq_ (blk_below F4.out hb); have X6 := aq_ (blk_below X5.out hb); have K1 := aq_ (blk_below K0.out hb); have HV6 := aq_ (Kd.V_below HV5.out hb); have LW6 := aq_ (Nat.lt_of_lt_of_le LW.out hb.size); obtain ⟨cx0, cx1, cx2, cx3, _⟩ := cellsS X6.out; obtain ⟨cf0, cf1, cf2, cf3, cf4, cf5, cf6, cf7⟩ := cellsF F5.out; obtain ⟨⟨ck0, ck1, ck2⟩, _⟩ := cells3 K1.out; obtain ⟨⟨r0, r1, r2⟩, fr0, fr1, fr2⟩ := cells3 T4.out; clear hb))
 refine bodyPost_ret (v := .tuple #[.agg #[.int .i64 0, .int .i64 0, .slice none 0 0], .bool false]) (ret_3t rfl (g := gt) rfl rfl (put_3 T4.out)) rfl ⟨rfl, below_put3 HB6.out (Nat.le_trans LX.out (Nat.le_of_lt (Nat.lt_trans LF.out LT.out))) _ _ _⟩
set_option maxHeartbeats 2000000 in
theorem proof_4 (x : Ses) (f : Frm) (w : World) (hd : wfS x) (hw : wfF f) (hh : hasS x = true) (hn : bareB f = true) (h1 : (f.sess == x.draw) = true) (h2 : decide (4611686018427387904 ≤ f.count) = false) (h3 : (f.kind == 2) = false) (h4 : (f.kind == 4) = false) :
  Calls Tryz.prog 18 #[.agg (sca x), .agg (fca f)] w fun e w' => e = .returned (.tuple #[.agg #[.int .i64 0, .int .i64 0, .slice none 0 0], .bool false]) ∧ Below w.heap.size w w' := by
 have HD1 := aq_ hd.1
 have HD2 := aq_ hd.2
 have HW := aq_ hw
 have HN := aq_ hn
 have hne : (f.sess != x.draw) = false := by rw [bne, h1]; rfl
 clear hn h1
 clear hd hw
 have HB := aq_ (Below.refl w.heap.size w)
 go_enter Tryz.func18, Tryz.ntmps18
 go_upto_region 1 with (first
  | (with_reducible refine box_Se (.tmp 0) (s := x) rfl rfl rfl ?_; intro gx hg w1 hbox hb; have HB1 := aq_ (below_step HB.out hb); have X1 := aq_ hbox; have LX := aq_ (Nat.le_of_eq hg.symm); clear hg hbox hb HB)
  | (with_reducible refine box_Fr (.tmp 1) (f := f) rfl rfl rfl ?_; intro gf hg w2 hbox hb; have HB2 := aq_ (below_step HB1.out hb); have F1 := aq_ hbox; have X2 := aq_ (blk_below X1.out hb); have LF := aq_ (show gx < gf by rw [hg]; exact blk_lt X1.out); clear hg hbox hb HB1 X1)
  | (with_reducible refine alloc_Te rfl rfl ?_; intro gt hg w3 hbox hb; have HB3 := aq_ (below_step HB2.out hb); have T1 := aq_ hbox; have F2 := aq_ (blk_below F1.out hb); have X3 := aq_ (blk_below X2.out hb); have LT := aq_ (show gf < gt by rw [hg]; exact blk_lt F1.out); clear hg hbox hb HB2 F1 X2))
 go_upto_region 2 with (first
  | (with_reducible refine load_S (.tmp 2) rfl rfl (p := ⟨gx, 0, none⟩) rfl (cells_box X3.out) ?_)
  | (go_at_call 21; (with_reducible refine (key_any x _ HD1.out HD2.out).mono ?_); rintro e w4 ⟨v4, rfl, hV, hb⟩; obtain ⟨Ak, ck, rfl⟩ := Kd.V_slice hV; have HV := aq_ hV; have HB4 := aq_ (below_step HB3.out hb); have T2 := aq_ (blk_below T1.out hb); have F3 := aq_ (blk_below F2.out hb); have X4 := aq_ (blk_below X3.out hb); have LK := aq_ (show gt < w3.heap.size from blk_lt T1.out); have LS := aq_ hb.size; clear hV hb HB3 T1 F2 X3))
 obtain ⟨W, hW⟩ : ∃ W, W = w4.alloc (.cells #[.int .i64 (keyT x).f0, .int .i64 (keyT x).f1, .slice Ak (keyT x).f2.length ck] 36) := ⟨_, rfl⟩
 rw [← hW]
 have K0 := aq_ (show W.heap[w4.heap.size]? = some (.cells #[.int .i64 (keyT x).f0, .int .i64 (keyT x).f1, .slice Ak (keyT x).f2.length ck] 36 (0, 0)) by rw [hW]; exact blk_new _ _)
 have hbW : Below w4.heap.size w4 W := by rw [hW]; exact below_alloc (Below.refl _ _) _
 clear hW
 have HB5 := aq_ (below_step HB4.out hbW)
 have T3 := aq_ (blk_below T2.out hbW)
 have F4 := aq_ (blk_below F3.out hbW)
 have X5 := aq_ (blk_below X4.out hbW)
 have HV5 := aq_ (Kd.V_below HV.out hbW)
 have LW := aq_ (blk_lt K0.out)
 clear hbW HB4 T2 F3 X4 HV
 obtain ⟨cx0, cx1, cx2, cx3, _⟩ := cellsS X5.out
 obtain ⟨cf0, cf1, cf2, cf3, cf4, cf5, cf6, cf7⟩ := cellsF F4.out
 obtain ⟨⟨ck0, ck1, ck2⟩, _⟩ := cells3 K0.out
 go_wp2_with (first
  | ((with_reducible refine gate_dst (N := 16) rfl ?_); (refine gate_guard (by rfl) ?_; dsimp only); (with_reducible refine load_F (.tmp 3) rfl rfl (p := ⟨gf, 0, none⟩) rfl (cells_boxF F4.out) ?_))
  | (go_at_call 35; (with_reducible refine (sbare_any f _ HW.out).mono ?_); rw [HN.out]; rintro e w6 ⟨rfl, hb⟩; have HB6 := aq_ (below_step HB5.out hb); have T4 := aq_ (blk_below T3.out hb); have F5 := aq_ (blk_below F4.out hb); have X6 := aq_ (blk_below X5.out hb); have K1 := aq_ (blk_below K0.out hb); have HV6 := aq_ (Kd.V_below HV5.out hb); have LW6 := aq_ (Nat.lt_of_lt_of_le LW.out hb.size); obtain ⟨cx0, cx1, cx2, cx3, _⟩ := cellsS X6.out; obtain ⟨cf0, cf1, cf2, cf3, cf4, cf5, cf6, cf7⟩ := cellsF F5.out; obtain ⟨⟨ck0, ck1, ck2⟩, _⟩ := cells3 K1.out; obtain ⟨⟨r0, r1, r2⟩, fr0, fr1, fr2⟩ := cells3 T4.out; clear hb))
 refine bodyPost_ret (v := .tuple #[.agg #[.int .i64 0, .int .i64 0, .slice none 0 0], .bool false]) (ret_3t rfl (g := gt) rfl rfl (put_3 T4.out)) rfl ⟨rfl, below_put3 HB6.out (Nat.le_trans LX.out (Nat.le_of_lt (Nat.lt_trans LF.out LT.out))) _ _ _⟩
set_option maxHeartbeats 2000000 in
theorem proof_5 (x : Ses) (f : Frm) (w : World) (hd : wfS x) (hw : wfF f) (hh : hasS x = true) (hn : bareB f = true) (h1 : (f.sess == x.draw) = true) (h2 : decide (4611686018427387904 ≤ f.count) = false) (h3 : (f.kind == 2) = true) :
  Calls Tryz.prog 18 #[.agg (sca x), .agg (fca f)] w fun e w' => ∃ v2, e = .returned (.tuple #[.agg #[.int .i64 3, .int .i64 0, v2], .bool true]) ∧ Kd.V k24 36 w' w.heap.size (fun j => w.heap.size ≤ j) v2 [keyT x, rowR [f.kind, f.sess]] ∧ Below w.heap.size w w' := by
 have HD1 := aq_ hd.1
 have HD2 := aq_ hd.2
 have HW := aq_ hw
 have HN := aq_ hn
 obtain ⟨_, _, hq1, _⟩ := has_parts hh
 have hq2 : f.sess = x.draw := by simpa using h1
 have hq3 : ¬ 4611686018427387904 ≤ f.count := by simpa using h2
 have e1 := wi64 (x := f.sess) (by have := hd.1; omega) (by omega)
 have e2 := wi64 (x := f.count) (by have := hw.2.2.1; omega) (by omega)
 have hne : (f.sess != x.draw) = false := by rw [bne, h1]; rfl
 clear hn hq1 hq2 hq3 h1
 clear hd hw
 have HB := aq_ (Below.refl w.heap.size w)
 go_enter Tryz.func18, Tryz.ntmps18
 go_upto_region 1 with (first
  | (with_reducible refine box_Se (.tmp 0) (s := x) rfl rfl rfl ?_; intro gx hg w1 hbox hb; have HB1 := aq_ (below_step HB.out hb); have X1 := aq_ hbox; have LX := aq_ (Nat.le_of_eq hg.symm); clear hg hbox hb HB)
  | (with_reducible refine box_Fr (.tmp 1) (f := f) rfl rfl rfl ?_; intro gf hg w2 hbox hb; have HB2 := aq_ (below_step HB1.out hb); have F1 := aq_ hbox; have X2 := aq_ (blk_below X1.out hb); have LF := aq_ (show gx < gf by rw [hg]; exact blk_lt X1.out); clear hg hbox hb HB1 X1)
  | (with_reducible refine alloc_Te rfl rfl ?_; intro gt hg w3 hbox hb; have HB3 := aq_ (below_step HB2.out hb); have T1 := aq_ hbox; have F2 := aq_ (blk_below F1.out hb); have X3 := aq_ (blk_below X2.out hb); have LT := aq_ (show gf < gt by rw [hg]; exact blk_lt F1.out); clear hg hbox hb HB2 F1 X2))
 go_upto_region 2 with (first
  | (with_reducible refine load_S (.tmp 2) rfl rfl (p := ⟨gx, 0, none⟩) rfl (cells_box X3.out) ?_)
  | (go_at_call 21; (with_reducible refine (key_any x _ HD1.out HD2.out).mono ?_); rintro e w4 ⟨v4, rfl, hV, hb⟩; obtain ⟨Ak, ck, rfl⟩ := Kd.V_slice hV; have HV := aq_ hV; have HB4 := aq_ (below_step HB3.out hb); have T2 := aq_ (blk_below T1.out hb); have F3 := aq_ (blk_below F2.out hb); have X4 := aq_ (blk_below X3.out hb); have LK := aq_ (show gt < w3.heap.size from blk_lt T1.out); have LS := aq_ hb.size; clear hV hb HB3 T1 F2 X3))
 obtain ⟨W, hW⟩ : ∃ W, W = w4.alloc (.cells #[.int .i64 (keyT x).f0, .int .i64 (keyT x).f1, .slice Ak (keyT x).f2.length ck] 36) := ⟨_, rfl⟩
 rw [← hW]
 have K0 := aq_ (show W.heap[w4.heap.size]? = some (.cells #[.int .i64 (keyT x).f0, .int .i64 (keyT x).f1, .slice Ak (keyT x).f2.length ck] 36 (0, 0)) by rw [hW]; exact blk_new _ _)
 have hbW : Below w4.heap.size w4 W := by rw [hW]; exact below_alloc (Below.refl _ _) _
 clear hW
 have HB5 := aq_ (below_step HB4.out hbW)
 have T3 := aq_ (blk_below T2.out hbW)
 have F4 := aq_ (blk_below F3.out hbW)
 have X5 := aq_ (blk_below X4.out hbW)
 have HV5 := aq_ (Kd.V_below HV.out hbW)
 have LW := aq_ (blk_lt K0.out)
 clear hbW HB4 T2 F3 X4 HV
 obtain ⟨cx0, cx1, cx2, cx3, _⟩ := cellsS X5.out
 obtain ⟨cf0, cf1, cf2, cf3, cf4, cf5, cf6, cf7⟩ := cellsF F4.out
 obtain ⟨⟨ck0, ck1, ck2⟩, _⟩ := cells3 K0.out
 go_upto_region 6 with (first
  | ((with_reducible refine gate_dst (N := 16) rfl ?_); (refine gate_guard (by rfl) ?_; dsimp only); (with_reducible refine load_F (.tmp 3) rfl rfl (p := ⟨gf, 0, none⟩) rfl (cells_boxF F4.out) ?_))
  | (go_at_call 35; (with_reducible refine (sbare_any f _ HW.out).mono ?_); rw [HN.out]; rintro e w6 ⟨rfl, hb⟩; have HB6 := aq_ (below_step HB5.out hb); have T4 := aq_ (blk_below T3.out hb); have F5 := aq_ (blk_below F4.out hb); have X6 := aq_ (blk_below X5.out hb); have K1 := aq_ (blk_below K0.out hb); have HV6 := aq_ (Kd.V_below HV5.out hb); have LW6 := aq_ (Nat.lt_of_lt_of_le LW.out hb.size); obtain ⟨cx0, cx1, cx2, cx3, _⟩ := cellsS X6.out; obtain ⟨cf0, cf1, cf2, cf3, cf4, cf5, cf6, cf7⟩ := cellsF F5.out; obtain ⟨⟨ck0, ck1, ck2⟩, _⟩ := cells3 K1.out; obtain ⟨⟨r0, r1, r2⟩, fr0, fr1, fr2⟩ := cells3 T4.out; clear hb))
 have HC := aq_ (lit_C (l := [f.kind, f.sess]) (blk_new w6 (.cells ([f.kind, f.sess].map (Value.int .i64)).toArray 3)) (by simp))
 have HV7 := aq_ (Kd.V_alloc HV6.out (.cells ([f.kind, f.sess].map (Value.int .i64)).toArray 3))
 have T5 := aq_ (blk_alloc T4.out (.cells ([f.kind, f.sess].map (Value.int .i64)).toArray 3))
 have HB7 := aq_ (below_alloc HB6.out (.cells ([f.kind, f.sess].map (Value.int .i64)).toArray 3))
 have hl6 : w4.heap.size < w6.heap.size := LW6.out
 go_wp2_with (go_at_call 36; go_loud (refine (tag_any (keyT x) (.slice Ak (keyT x).f2.length ck) [f.kind, f.sess] (some ⟨w6.heap.size, 0, none⟩) 2 w3.heap.size (fun j => w3.heap.size ≤ j) _ HV7.out HC.out (Nat.le_refl _)).mono ?_); rintro e w8 ⟨v8, rfl, hV, hb⟩; obtain ⟨A8, k8, rfl⟩ := Kd.V_slice hV; have HV8 := aq_ hV; have U2 := aq_ (blk_below T5.out hb); have HB8 := aq_ (below_step HB7.out hb); obtain ⟨⟨r0, r1, r2⟩, fr0, fr1, fr2⟩ := cells3 U2.out; clear hb hV)
 refine bodyPost_ret (v := .tuple #[.agg #[.int .i64 3, .int .i64 0, .slice A8 [keyT x, rowR [f.kind, f.sess]].length k8], .bool true]) (ret_3t rfl (g := gt) rfl rfl (put_3 U2.out)) rfl ⟨_, rfl, ?_, below_put3 HB8.out (Nat.le_trans LX.out (Nat.le_of_lt (Nat.lt_trans LF.out LT.out))) _ _ _⟩
 have hlk := LK.out
 have hlt := blk_lt T4.out
 have hlx := LX.out
 have hlf := LF.out
 have hl2 := LT.out
 refine V_put3 (Kd.V_mono HV8.out (ok' := fun j => w.heap.size ≤ j ∧ j ≠ gt) ?_) (fun j hj => hj.2) |> fun h => Kd.V_mono h fun j hj => hj.1
 intro j hj
 rcases hj with hj | hj
 ·exact ⟨by omega, by omega⟩
 ·rw [size_al] at hj
  exact ⟨by omega, by omega⟩
set_option maxHeartbeats 2000000 in
theorem proof_6 (x : Ses) (f : Frm) (w : World) (hd : wfS x) (hw : wfF f) (hh : hasS x = true) (hn : bareB f = true) (h1 : (f.sess == x.draw) = true) (h2 : decide (4611686018427387904 ≤ f.count) = false) (h3 : (f.kind == 2) = false) (h4 : (f.kind == 4) = true) :
  Calls Tryz.prog 18 #[.agg (sca x), .agg (fca f)] w fun e w' => ∃ v2, e = .returned (.tuple #[.agg #[.int .i64 3, .int .i64 0, v2], .bool true]) ∧ Kd.V k24 36 w' w.heap.size (fun j => w.heap.size ≤ j) v2 [keyT x, rowR [f.kind, f.sess, f.count, f.cmd, f.arg]] ∧ Below w.heap.size w w' := by
 have HD1 := aq_ hd.1
 have HD2 := aq_ hd.2
 have HW := aq_ hw
 have HN := aq_ hn
 obtain ⟨_, _, hq1, _⟩ := has_parts hh
 have hq2 : f.sess = x.draw := by simpa using h1
 have hq3 : ¬ 4611686018427387904 ≤ f.count := by simpa using h2
 have e1 := wi64 (x := f.sess) (by have := hd.1; omega) (by omega)
 have e2 := wi64 (x := f.count) (by have := hw.2.2.1; omega) (by omega)
 have hne : (f.sess != x.draw) = false := by rw [bne, h1]; rfl
 clear hn hq1 hq2 hq3 h1
 clear hd hw
 have HB := aq_ (Below.refl w.heap.size w)
 go_enter Tryz.func18, Tryz.ntmps18
 go_upto_region 1 with (first
  | (with_reducible refine box_Se (.tmp 0) (s := x) rfl rfl rfl ?_; intro gx hg w1 hbox hb; have HB1 := aq_ (below_step HB.out hb); have X1 := aq_ hbox; have LX := aq_ (Nat.le_of_eq hg.symm); clear hg hbox hb HB)
  | (with_reducible refine box_Fr (.tmp 1) (f := f) rfl rfl rfl ?_; intro gf hg w2 hbox hb; have HB2 := aq_ (below_step HB1.out hb); have F1 := aq_ hbox; have X2 := aq_ (blk_below X1.out hb); have LF := aq_ (show gx < gf by rw [hg]; exact blk_lt X1.out); clear hg hbox hb HB1 X1)
  | (with_reducible refine alloc_Te rfl rfl ?_; intro gt hg w3 hbox hb; have HB3 := aq_ (below_step HB2.out hb); have T1 := aq_ hbox; have F2 := aq_ (blk_below F1.out hb); have X3 := aq_ (blk_below X2.out hb); have LT := aq_ (show gf < gt by rw [hg]; exact blk_lt F1.out); clear hg hbox hb HB2 F1 X2))
 go_upto_region 2 with (first
  | (with_reducible refine load_S (.tmp 2) rfl rfl (p := ⟨gx, 0, none⟩) rfl (cells_box X3.out) ?_)
  | (go_at_call 21; (with_reducible refine (key_any x _ HD1.out HD2.out).mono ?_); rintro e w4 ⟨v4, rfl, hV, hb⟩; obtain ⟨Ak, ck, rfl⟩ := Kd.V_slice hV; have HV := aq_ hV; have HB4 := aq_ (below_step HB3.out hb); have T2 := aq_ (blk_below T1.out hb); have F3 := aq_ (blk_below F2.out hb); have X4 := aq_ (blk_below X3.out hb); have LK := aq_ (show gt < w3.heap.size from blk_lt T1.out); have LS := aq_ hb.size; clear hV hb HB3 T1 F2 X3))
 obtain ⟨W, hW⟩ : ∃ W, W = w4.alloc (.cells #[.int .i64 (keyT x).f0, .int .i64 (keyT x).f1, .slice Ak (keyT x).f2.length ck] 36) := ⟨_, rfl⟩
 rw [← hW]
 have K0 := aq_ (show W.heap[w4.heap.size]? = some (.cells #[.int .i64 (keyT x).f0, .int .i64 (keyT x).f1, .slice Ak (keyT x).f2.length ck] 36 (0, 0)) by rw [hW]; exact blk_new _ _)
 have hbW : Below w4.heap.size w4 W := by rw [hW]; exact below_alloc (Below.refl _ _) _
 clear hW
 have HB5 := aq_ (below_step HB4.out hbW)
 have T3 := aq_ (blk_below T2.out hbW)
 have F4 := aq_ (blk_below F3.out hbW)
 have X5 := aq_ (blk_below X4.out hbW)
 have HV5 := aq_ (Kd.V_below HV.out hbW)
 have LW := aq_ (blk_lt K0.out)
 clear hbW HB4 T2 F3 X4 HV
 obtain ⟨cx0, cx1, cx2, cx3, _⟩ := cellsS X5.out
 obtain ⟨cf0, cf1, cf2, cf3, cf4, cf5, cf6, cf7⟩ := cellsF F4.out
 obtain ⟨⟨ck0, ck1, ck2⟩, _⟩ := cells3 K0.out
 go_upto_region 8 with (first
  | ((with_reducible refine gate_dst (N := 16) rfl ?_); (refine gate_guard (by rfl) ?_; dsimp only); (with_reducible refine load_F (.tmp 3) rfl rfl (p := ⟨gf, 0, none⟩) rfl (cells_boxF F4.out) ?_))
  | (go_at_call 35; (with_reducible refine (sbare_any f _ HW.out).mono ?_); rw [HN.out]; rintro e w6 ⟨rfl, hb⟩; have HB6 := aq_ (below_step HB5.out hb); have T4 := aq_ (blk_below T3.out hb); have F5 := aq_ (blk_below F4.out hb); have X6 := aq_ (blk_below X5.out hb); have K1 := aq_ (blk_below K0.out hb); have HV6 := aq_ (Kd.V_below HV5.out hb); have LW6 := aq_ (Nat.lt_of_lt_of_le LW.out hb.size); obtain ⟨cx0, cx1, cx2, cx3, _⟩ := cellsS X6.out; obtain ⟨cf0, cf1, cf2, cf3, cf4, cf5, cf6, cf7⟩ := cellsF F5.out; obtain ⟨⟨ck0, ck1, ck2⟩, _⟩ := cells3 K1.out; obtain ⟨⟨r0, r1, r2⟩, fr0, fr1, fr2⟩ := cells3 T4.out; clear hb))
 have HC := aq_ (lit_C (l := [f.kind, f.sess, f.count, f.cmd, f.arg]) (blk_new w6 (.cells ([f.kind, f.sess, f.count, f.cmd, f.arg].map (Value.int .i64)).toArray 3)) (by simp))
 have HV7 := aq_ (Kd.V_alloc HV6.out (.cells ([f.kind, f.sess, f.count, f.cmd, f.arg].map (Value.int .i64)).toArray 3))
 have T5 := aq_ (blk_alloc T4.out (.cells ([f.kind, f.sess, f.count, f.cmd, f.arg].map (Value.int .i64)).toArray 3))
 have HB7 := aq_ (below_alloc HB6.out (.cells ([f.kind, f.sess, f.count, f.cmd, f.arg].map (Value.int .i64)).toArray 3))
 have hl6 : w4.heap.size < w6.heap.size := LW6.out
 go_wp2_with (go_at_call 36; go_loud (refine (tag_any (keyT x) (.slice Ak (keyT x).f2.length ck) [f.kind, f.sess, f.count, f.cmd, f.arg] (some ⟨w6.heap.size, 0, none⟩) 5 w3.heap.size (fun j => w3.heap.size ≤ j) _ HV7.out HC.out (Nat.le_refl _)).mono ?_); rintro e w8 ⟨v8, rfl, hV, hb⟩; obtain ⟨A8, k8, rfl⟩ := Kd.V_slice hV; have HV8 := aq_ hV; have U2 := aq_ (blk_below T5.out hb); have HB8 := aq_ (below_step HB7.out hb); obtain ⟨⟨r0, r1, r2⟩, fr0, fr1, fr2⟩ := cells3 U2.out; clear hb hV)
 refine bodyPost_ret (v := .tuple #[.agg #[.int .i64 3, .int .i64 0, .slice A8 [keyT x, rowR [f.kind, f.sess, f.count, f.cmd, f.arg]].length k8], .bool true]) (ret_3t rfl (g := gt) rfl rfl (put_3 U2.out)) rfl ⟨_, rfl, ?_, below_put3 HB8.out (Nat.le_trans LX.out (Nat.le_of_lt (Nat.lt_trans LF.out LT.out))) _ _ _⟩
 have hlk := LK.out
 have hlt := blk_lt T4.out
 have hlx := LX.out
 have hlf := LF.out
 have hl2 := LT.out
 refine V_put3 (Kd.V_mono HV8.out (ok' := fun j => w.heap.size ≤ j ∧ j ≠ gt) ?_) (fun j hj => hj.2) |> fun h => Kd.V_mono h fun j hj => hj.1
 intro j hj
 rcases hj with hj | hj
 ·exact ⟨by omega, by omega⟩
 ·rw [size_al] at hj
  exact ⟨by omega, by omega⟩
theorem proof_any (x : Ses) (f : Frm) (w : World) (hd : wfS x) (hw : wfF f) :
  Calls Tryz.prog 18 #[.agg (sca x), .agg (fca f)] w fun e w' => ∃ v2, e = .returned (.tuple #[.agg #[.int .i64 (proofT x f).f0, .int .i64 (proofT x f).f1, v2], .bool (isP x f)]) ∧ Kd.V k24 36 w' w.heap.size (fun j => w.heap.size ≤ j) v2 (proofT x f).f2 ∧ Below w.heap.size w w' := by
 have no : isP x f = false → (Calls Tryz.prog 18 #[.agg (sca x), .agg (fca f)] w fun e w' => e = .returned (.tuple #[.agg #[.int .i64 0, .int .i64 0, .slice none 0 0], .bool false]) ∧ Below w.heap.size w w') → Calls Tryz.prog 18 #[.agg (sca x), .agg (fca f)] w fun e w' => ∃ v2, e = .returned (.tuple #[.agg #[.int .i64 (proofT x f).f0, .int .i64 (proofT x f).f1, v2], .bool (isP x f)]) ∧ Kd.V k24 36 w' w.heap.size (fun j => w.heap.size ≤ j) v2 (proofT x f).f2 ∧ Below w.heap.size w w' := by
  intro h c
  refine c.mono ?_
  rintro e w' ⟨rfl, hb⟩
  have hz : proofT x f = z24 := by unfold proofT; rw [h]; rfl
  rw [hz, h]
  exact ⟨_, rfl, Kd.V_nil _ _ _ _ _, hb⟩
 cases hh : hasS x
 ·exact no (by simp [isP, okP, hh]) (proof_0 x f w hd hw hh)
 cases hn : bareB f
 ·exact no (by simp [isP, okP, hn]) (proof_1 x f w hd hw hh hn)
 cases h1 : (f.sess == x.draw)
 ·exact no (by simp [isP, okP, h1]) (proof_2 x f w hd hw hh hn h1)
 cases h2 : decide (4611686018427387904 ≤ f.count)
 ·have h2' : decide (f.count < 4611686018427387904) = true := by simp at h2 ⊢; omega
  cases h3 : (f.kind == 2)
  ·cases h4 : (f.kind == 4)
   ·exact no (by simp [isP, h3, h4]) (proof_4 x f w hd hw hh hn h1 h2 h3 h4)
   ·have hi : isP x f = true := by simp [isP, okP, hh, hn, h1, h2', h3, h4]
    have hk : ¬ f.kind = 2 := by simpa using h3
    have hz : proofT x f = tagT (keyT x) [f.kind, f.sess, f.count, f.cmd, f.arg] := by unfold proofT; rw [if_pos hi, if_neg hk]
    rw [hz, hi]
    exact proof_6 x f w hd hw hh hn h1 h2 h3 h4
  ·have hi : isP x f = true := by simp [isP, okP, hh, hn, h1, h2', h3]
   have hk : f.kind = 2 := by simpa using h3
   have hz : proofT x f = tagT (keyT x) [f.kind, f.sess] := by unfold proofT; rw [if_pos hi, if_pos hk]
   rw [hz, hi]
   exact proof_5 x f w hd hw hh hn h1 h2 h3
 ·have h2' : decide (f.count < 4611686018427387904) = false := by simp at h2 ⊢; omega
  exact no (by simp [isP, okP, h2']) (proof_3 x f w hd hw hh hn h1 h2)
end Go.Proofs.YtdinphnljokigaaGreat.P
end
