/- What LawSymForge rests on, part 15: several texts put together. -/
import Derived.Test.YtdinphnljokigaaGreatR14
import Derived.Test.YtdinphnljokigaaGreatR2
set_option linter.unusedVariables false
set_option linter.unnecessarySimpa false
set_option linter.unusedSimpArgs false
set_option maxRecDepth 100000
section
namespace Go.Proofs.YtdinphnljokigaaGreat.P
open Go.RowKit Go.Lib Go.Proofs.YtdinphnljokigaaGreatW.PrintWords Go.Proofs.YtdinphnljokigaaGreatW.PrintLast Go.Proofs.YtdinphnljokigaaGreatW.PrintMore
theorem goesv_ {P : Program} {ops : Array Oper} {Q : Exit → Act → World → Prop} {oi : Oper} {N : Option Tmp} {a : Act} {w : World} {K : Act → World → Prop} {f : FuncId} {fn : Func} {c : Operand} {xs : Array Operand} {ts : Array TypeId} (hf : P.funcs[f]? = some fn) (hname : (fn.name == "runtime.NumGoroutine") = false) (hb : fn.body.isSome = true) (args : Array Value)
  (hw : Region.wanted oi (yielded ops a.tmps) = true) (hN : oi.dst = N) (hop : oi.op = .call { callee := .value c, args := xs, argTypes := ts }) (hc : a.eval c = .func (.func f) #[] #[]) (hargs : xs.map a.eval = args)
  (h : Calls P f args w fun e w' => ∃ v, e = .returned v ∧ K (a.put N v) w') : if Region.wanted oi (yielded ops a.tmps) = true then Oper.wp P oi a w K Q else K (a.put N undef) w := by
 refine call_ f args hw hN ?_ h
 have he := enters_ hf hname hb args w
 unfold execOp
 simp [hop, hc, resolve, Deferred.ofValue, invoke, hargs, he]
def kindB (k : Int) : Bool := decide (0 ≤ k) && decide (k < 7)
theorem kind_any (k : Int) (w : World) : Calls Tryz.prog 107 #[.int .i64 k] w fun e w' => e = .returned (.bool (kindB k)) ∧ w = w' := by
 by_cases h1 : 0 ≤ k
 ·by_cases h2 : k < 7
  ·go_enter Tryz.func107, Tryz.ntmps107
   go_wp2
   go_ret
   exact ⟨ret_bool (by simp [kindB, h1, h2]), rfl⟩
  ·go_enter Tryz.func107, Tryz.ntmps107
   go_wp2
   go_ret
   exact ⟨ret_bool (by simp [kindB, h1, h2]), rfl⟩
 ·have h3 : decide (0 ≤ k) = false := by simpa using h1
  go_enter Tryz.func107, Tryz.ntmps107
  go_wp2
  go_ret
  exact ⟨ret_bool (by simp [kindB]; omega), rfl⟩
theorem pin_any (n m : Int) (w : World) : Calls Tryz.prog 106 #[.int .i64 n, .int .i64 m] w fun e w' => e = .returned (.bool (inB n 0 m)) ∧ w = w' := by
 by_cases h1 : 0 ≤ n
 ·by_cases h2 : n ≤ m
  ·go_enter Tryz.func106, Tryz.ntmps106
   go_wp2
   go_ret
   exact ⟨ret_bool (by simp [inB, h1, h2]), rfl⟩
  ·go_enter Tryz.func106, Tryz.ntmps106
   go_wp2
   go_ret
   exact ⟨ret_bool (by simp [inB, h1, h2]), rfl⟩
 ·have h3 : decide (0 ≤ n) = false := by simpa using h1
  go_enter Tryz.func106, Tryz.ntmps106
  go_wp2
  go_ret
  exact ⟨ret_bool (by simp [inB]; omega), rfl⟩
def plainF (f : Frm) : Bool := kindB f.kind && (inB f.user 0 255 && (inB f.epoch 0 1073741824 && (inB f.cmd 0 255 && (inB f.arg 0 65535 && decide (bareF f = f)))))
set_option maxHeartbeats 2000000 in
theorem plain_0 (f : Frm) (w : World) (t0 : kindB f.kind = false) : Calls Tryz.prog 89 #[.agg (fca f)] w fun e w' => e = .returned (.bool false) ∧ Below w.heap.size w w' := by
 have T0 := aq_ t0
 clear t0
 go_enter Tryz.func89, Tryz.ntmps89
 go_upto_region 2 with (fail)
 have X1 := aq_ (show ((w.alloc (.cells (fca f) 31)).drew).heap[w.heap.size]? = some (.cells (fca f) 31 (0, 0)) from blk_drew (blk_new w _))
 have HB1 := aq_ (show Below w.heap.size w ((w.alloc (.cells (fca f) 31)).drew) from below_drew (below_alloc (Below.refl _ _) _))
 refine start_ (n := 34) (S := fun w' => w'.cell? ⟨w.heap.size, 0, none⟩ = some (.int .i64 f.kind) ∧ w'.cell? ⟨w.heap.size, 1, none⟩ = some (.int .i64 f.user) ∧ w'.cell? ⟨w.heap.size, 4, none⟩ = some (.int .i64 f.epoch) ∧ w'.cell? ⟨w.heap.size, 6, none⟩ = some (.int .i64 f.cmd) ∧ w'.cell? ⟨w.heap.size, 7, none⟩ = some (.int .i64 f.arg) ∧ w'.heap[w.heap.size]? = some (.cells (fca f) 31 (0, 0)) ∧ Below w.heap.size w w') (ds := []) #[false, false, false, false, false, false, false, false, false, false, false, false, false, false, false, false, false, false, false, false, false, false, false, false, false, false, false, false, false, false, false, false, false, false] (by kernel_rfl) rfl rfl ⟨(cellsF X1.out).1, (cellsF X1.out).2.1, (cellsF X1.out).2.2.2.2.1, (cellsF X1.out).2.2.2.2.2.2.1, (cellsF X1.out).2.2.2.2.2.2.2, X1.out, HB1.out⟩ (fun hHeld => ?_)
 refine pu_ 0 (some 4) ?_ (bt_ 34 1) rfl rfl (Or.inl ⟨by rfl, ?_⟩) ?_ ?_ ?_;rotate_left;(intro w';go_simp;with_reducible rfl);rotate_left;(simp only [pt_];rfl)
 refine ta_ 1 (some 5) ?_ (bt_ 34 3) rfl rfl (Or.inl ⟨by rfl, ?_⟩) hHeld ?_ ?_ ?_;rotate_left;(rintro w' ⟨s0, s1, s2, s3, s4, s5, s6⟩;go_simp;with_reducible rfl);rotate_left;(simp only [pt_];rfl)
 refine one_ (i := 2) (N := some 6) (bt_ 34 7) rfl rfl (by kernel_rfl) (by decide) (fun K hK => ?_)
 refine goes_ Tryz.func107 (by kernel_rfl) rfl #[.int .i64 f.kind] (by rfl) rfl rfl (by simp only [List.map_toArray, List.map_cons, List.map_nil]; rfl) ?_
 with_reducible refine (kind_any f.kind _).mono ?_
 rintro e w_ ⟨he_, rfl⟩
 rw [T0.out] at he_
 subst he_
 refine ⟨_, rfl, ?_⟩
 refine hK.out _ _ ⟨(cellsF X1.out).1, (cellsF X1.out).2.1, (cellsF X1.out).2.2.2.2.1, (cellsF X1.out).2.2.2.2.2.2.1, (cellsF X1.out).2.2.2.2.2.2.2, X1.out, HB1.out⟩ (fun hHeld => ?_)
 clear hK K
 refine norm_ (a' := ?_) ?_ ?_
 rotate_left
 ·show Act.put _ (some 6) _ = _
  simp only [pt_]
  rfl
 refine pu_ 3 (some 7) ?_ (bt_ 34 15) rfl rfl (Or.inl ⟨by rfl, ?_⟩) ?_ ?_ ?_;rotate_left;(intro w';go_simp;with_reducible rfl);rotate_left;(simp only [pt_];rfl)
 refine pu_ 4 (some 8) undef (bt_ 34 31) rfl rfl (Or.inr ⟨by rfl, rfl⟩) ?_ ?_ ?_;rotate_left;(simp only [pt_];rfl)
 refine pu_ 5 (some 9) undef (bt_ 34 63) rfl rfl (Or.inr ⟨by rfl, rfl⟩) ?_ ?_ ?_;rotate_left;(simp only [pt_];rfl)
 refine pu_ 6 (some 10) undef (bt_ 34 127) rfl rfl (Or.inr ⟨by rfl, rfl⟩) ?_ ?_ ?_;rotate_left;(simp only [pt_];rfl)
 refine pu_ 7 (some 11) undef (bt_ 34 255) rfl rfl (Or.inr ⟨by rfl, rfl⟩) ?_ ?_ ?_;rotate_left;(simp only [pt_];rfl)
 refine pu_ 8 (some 12) ?_ (bt_ 34 511) rfl rfl (Or.inl ⟨by rfl, ?_⟩) ?_ ?_ ?_;rotate_left;(intro w';go_simp;with_reducible rfl);rotate_left;(simp only [pt_];rfl)
 refine pu_ 9 (some 13) ?_ (bt_ 34 1023) rfl rfl (Or.inl ⟨by rfl, ?_⟩) ?_ ?_ ?_;rotate_left;(intro w';go_simp;with_reducible rfl);rotate_left;(simp only [pt_];rfl)
 refine pu_ 10 (some 14) undef (bt_ 34 2047) rfl rfl (Or.inr ⟨by rfl, rfl⟩) ?_ ?_ ?_;rotate_left;(simp only [pt_];rfl)
 refine pu_ 11 (some 15) undef (bt_ 34 4095) rfl rfl (Or.inr ⟨by rfl, rfl⟩) ?_ ?_ ?_;rotate_left;(simp only [pt_];rfl)
 refine pu_ 12 (some 16) undef (bt_ 34 8191) rfl rfl (Or.inr ⟨by rfl, rfl⟩) ?_ ?_ ?_;rotate_left;(simp only [pt_];rfl)
 refine pu_ 13 (some 17) undef (bt_ 34 16383) rfl rfl (Or.inr ⟨by rfl, rfl⟩) ?_ ?_ ?_;rotate_left;(simp only [pt_];rfl)
 refine pu_ 14 (some 18) ?_ (bt_ 34 32767) rfl rfl (Or.inl ⟨by rfl, ?_⟩) ?_ ?_ ?_;rotate_left;(intro w';go_simp;with_reducible rfl);rotate_left;(simp only [pt_];rfl)
 refine pu_ 15 (some 19) ?_ (bt_ 34 65535) rfl rfl (Or.inl ⟨by rfl, ?_⟩) ?_ ?_ ?_;rotate_left;(intro w';go_simp;with_reducible rfl);rotate_left;(simp only [pt_];rfl)
 refine pu_ 16 (some 20) undef (bt_ 34 131071) rfl rfl (Or.inr ⟨by rfl, rfl⟩) ?_ ?_ ?_;rotate_left;(simp only [pt_];rfl)
 refine pu_ 17 (some 21) undef (bt_ 34 262143) rfl rfl (Or.inr ⟨by rfl, rfl⟩) ?_ ?_ ?_;rotate_left;(simp only [pt_];rfl)
 refine pu_ 18 (some 22) undef (bt_ 34 524287) rfl rfl (Or.inr ⟨by rfl, rfl⟩) ?_ ?_ ?_;rotate_left;(simp only [pt_];rfl)
 refine pu_ 19 (some 23) undef (bt_ 34 1048575) rfl rfl (Or.inr ⟨by rfl, rfl⟩) ?_ ?_ ?_;rotate_left;(simp only [pt_];rfl)
 refine pu_ 20 (some 24) ?_ (bt_ 34 2097151) rfl rfl (Or.inl ⟨by rfl, ?_⟩) ?_ ?_ ?_;rotate_left;(intro w';go_simp;with_reducible rfl);rotate_left;(simp only [pt_];rfl)
 refine pu_ 21 (some 25) ?_ (bt_ 34 4194303) rfl rfl (Or.inl ⟨by rfl, ?_⟩) ?_ ?_ ?_;rotate_left;(intro w';go_simp;with_reducible rfl);rotate_left;(simp only [pt_];rfl)
 refine pu_ 22 (some 26) undef (bt_ 34 8388607) rfl rfl (Or.inr ⟨by rfl, rfl⟩) ?_ ?_ ?_;rotate_left;(simp only [pt_];rfl)
 refine pu_ 23 (some 27) undef (bt_ 34 16777215) rfl rfl (Or.inr ⟨by rfl, rfl⟩) ?_ ?_ ?_;rotate_left;(simp only [pt_];rfl)
 refine pu_ 24 (some 28) undef (bt_ 34 33554431) rfl rfl (Or.inr ⟨by rfl, rfl⟩) ?_ ?_ ?_;rotate_left;(simp only [pt_];rfl)
 refine pu_ 25 (some 29) undef (bt_ 34 67108863) rfl rfl (Or.inr ⟨by rfl, rfl⟩) ?_ ?_ ?_;rotate_left;(simp only [pt_];rfl)
 refine pu_ 26 (some 30) ?_ (bt_ 34 134217727) rfl rfl (Or.inl ⟨by rfl, ?_⟩) ?_ ?_ ?_;rotate_left;(intro w';go_simp;with_reducible rfl);rotate_left;(simp only [pt_];rfl)
 refine pu_ 27 (some 31) ?_ (bt_ 34 268435455) rfl rfl (Or.inl ⟨by rfl, ?_⟩) ?_ ?_ ?_;rotate_left;(intro w';go_simp;with_reducible rfl);rotate_left;(simp only [pt_];rfl)
 refine pu_ 28 (some 32) undef (bt_ 34 536870911) rfl rfl (Or.inr ⟨by rfl, rfl⟩) ?_ ?_ ?_;rotate_left;(simp only [pt_];rfl)
 refine pu_ 29 (some 33) undef (bt_ 34 1073741823) rfl rfl (Or.inr ⟨by rfl, rfl⟩) ?_ ?_ ?_;rotate_left;(simp only [pt_];rfl)
 refine pu_ 30 (some 34) undef (bt_ 34 2147483647) rfl rfl (Or.inr ⟨by rfl, rfl⟩) ?_ ?_ ?_;rotate_left;(simp only [pt_];rfl)
 refine pu_ 31 (some 35) undef (bt_ 34 4294967295) rfl rfl (Or.inr ⟨by rfl, rfl⟩) ?_ ?_ ?_;rotate_left;(simp only [pt_];rfl)
 refine pu_ 32 (some 36) ?_ (bt_ 34 8589934591) rfl rfl (Or.inl ⟨by rfl, ?_⟩) ?_ ?_ ?_;rotate_left;(intro w';go_simp;with_reducible rfl);rotate_left;(simp only [pt_];rfl)
 refine pu_ 33 (some 2) ?_ (bt_ 34 17179869183) rfl rfl (Or.inl ⟨by rfl, ?_⟩) ?_ ?_ ?_;rotate_left;(intro w';go_simp;with_reducible rfl);rotate_left;(simp only [pt_];rfl)
 refine done_ (by kernel_rfl) ?_
 have HB := aq_ hHeld.2.2.2.2.2.2
 go_wp2
 go_ret
 exact ⟨rfl, HB.out⟩
set_option maxHeartbeats 2000000 in
theorem plain_1 (f : Frm) (w : World) (t0 : kindB f.kind = true) (t1 : inB f.user 0 255 = false) : Calls Tryz.prog 89 #[.agg (fca f)] w fun e w' => e = .returned (.bool false) ∧ Below w.heap.size w w' := by
 have T0 := aq_ t0
 have T1 := aq_ t1
 clear t0 t1
 go_enter Tryz.func89, Tryz.ntmps89
 go_upto_region 2 with (fail)
 have X1 := aq_ (show ((w.alloc (.cells (fca f) 31)).drew).heap[w.heap.size]? = some (.cells (fca f) 31 (0, 0)) from blk_drew (blk_new w _))
 have HB1 := aq_ (show Below w.heap.size w ((w.alloc (.cells (fca f) 31)).drew) from below_drew (below_alloc (Below.refl _ _) _))
 refine start_ (n := 34) (S := fun w' => w'.cell? ⟨w.heap.size, 0, none⟩ = some (.int .i64 f.kind) ∧ w'.cell? ⟨w.heap.size, 1, none⟩ = some (.int .i64 f.user) ∧ w'.cell? ⟨w.heap.size, 4, none⟩ = some (.int .i64 f.epoch) ∧ w'.cell? ⟨w.heap.size, 6, none⟩ = some (.int .i64 f.cmd) ∧ w'.cell? ⟨w.heap.size, 7, none⟩ = some (.int .i64 f.arg) ∧ w'.heap[w.heap.size]? = some (.cells (fca f) 31 (0, 0)) ∧ Below w.heap.size w w') (ds := []) #[false, false, false, false, false, false, false, false, false, false, false, false, false, false, false, false, false, false, false, false, false, false, false, false, false, false, false, false, false, false, false, false, false, false] (by kernel_rfl) rfl rfl ⟨(cellsF X1.out).1, (cellsF X1.out).2.1, (cellsF X1.out).2.2.2.2.1, (cellsF X1.out).2.2.2.2.2.2.1, (cellsF X1.out).2.2.2.2.2.2.2, X1.out, HB1.out⟩ (fun hHeld => ?_)
 refine pu_ 0 (some 4) ?_ (bt_ 34 1) rfl rfl (Or.inl ⟨by rfl, ?_⟩) ?_ ?_ ?_;rotate_left;(intro w';go_simp;with_reducible rfl);rotate_left;(simp only [pt_];rfl)
 refine ta_ 1 (some 5) ?_ (bt_ 34 3) rfl rfl (Or.inl ⟨by rfl, ?_⟩) hHeld ?_ ?_ ?_;rotate_left;(rintro w' ⟨s0, s1, s2, s3, s4, s5, s6⟩;go_simp;with_reducible rfl);rotate_left;(simp only [pt_];rfl)
 refine one_ (i := 2) (N := some 6) (bt_ 34 7) rfl rfl (by kernel_rfl) (by decide) (fun K hK => ?_)
 refine goes_ Tryz.func107 (by kernel_rfl) rfl #[.int .i64 f.kind] (by rfl) rfl rfl (by simp only [List.map_toArray, List.map_cons, List.map_nil]; rfl) ?_
 with_reducible refine (kind_any f.kind _).mono ?_
 rintro e w_ ⟨he_, rfl⟩
 rw [T0.out] at he_
 subst he_
 refine ⟨_, rfl, ?_⟩
 refine hK.out _ _ ⟨(cellsF X1.out).1, (cellsF X1.out).2.1, (cellsF X1.out).2.2.2.2.1, (cellsF X1.out).2.2.2.2.2.2.1, (cellsF X1.out).2.2.2.2.2.2.2, X1.out, HB1.out⟩ (fun hHeld => ?_)
 clear hK K
 refine norm_ (a' := ?_) ?_ ?_
 rotate_left
 ·show Act.put _ (some 6) _ = _
  simp only [pt_]
  rfl
 refine pu_ 3 (some 7) ?_ (bt_ 34 15) rfl rfl (Or.inl ⟨by rfl, ?_⟩) ?_ ?_ ?_;rotate_left;(intro w';go_simp;with_reducible rfl);rotate_left;(simp only [pt_];rfl)
 refine pu_ 4 (some 8) ?_ (bt_ 34 31) rfl rfl (Or.inl ⟨by rfl, ?_⟩) ?_ ?_ ?_;rotate_left;(intro w';go_simp;with_reducible rfl);rotate_left;(simp only [pt_];rfl)
 refine pu_ 5 (some 9) ?_ (bt_ 34 63) rfl rfl (Or.inl ⟨by rfl, ?_⟩) ?_ ?_ ?_;rotate_left;(intro w';go_simp;with_reducible rfl);rotate_left;(simp only [pt_];rfl)
 refine ta_ 6 (some 10) ?_ (bt_ 34 127) rfl rfl (Or.inl ⟨by rfl, ?_⟩) hHeld ?_ ?_ ?_;rotate_left;(rintro w' ⟨s0, s1, s2, s3, s4, s5, s6⟩;go_simp;with_reducible rfl);rotate_left;(simp only [pt_];rfl)
 refine one_ (i := 7) (N := some 11) (bt_ 34 255) rfl rfl (by kernel_rfl) (by decide) (fun K hK => ?_)
 refine goesv_ Tryz.func106 (by kernel_rfl) rfl #[.int .i64 f.user, .int .i64 255] (by rfl) rfl rfl rfl (by simp only [List.map_toArray, List.map_cons, List.map_nil]; rfl) ?_
 with_reducible refine (pin_any f.user 255 _).mono ?_
 rintro e w_ ⟨he_, rfl⟩
 rw [T1.out] at he_
 subst he_
 refine ⟨_, rfl, ?_⟩
 refine hK.out _ _ ⟨(cellsF X1.out).1, (cellsF X1.out).2.1, (cellsF X1.out).2.2.2.2.1, (cellsF X1.out).2.2.2.2.2.2.1, (cellsF X1.out).2.2.2.2.2.2.2, X1.out, HB1.out⟩ (fun hHeld => ?_)
 clear hK K
 refine norm_ (a' := ?_) ?_ ?_
 rotate_left
 ·show Act.put _ (some 11) _ = _
  simp only [pt_]
  rfl
 refine pu_ 8 (some 12) ?_ (bt_ 34 511) rfl rfl (Or.inl ⟨by rfl, ?_⟩) ?_ ?_ ?_;rotate_left;(intro w';go_simp;with_reducible rfl);rotate_left;(simp only [pt_];rfl)
 refine pu_ 9 (some 13) ?_ (bt_ 34 1023) rfl rfl (Or.inl ⟨by rfl, ?_⟩) ?_ ?_ ?_;rotate_left;(intro w';go_simp;with_reducible rfl);rotate_left;(simp only [pt_];rfl)
 refine pu_ 10 (some 14) undef (bt_ 34 2047) rfl rfl (Or.inr ⟨by rfl, rfl⟩) ?_ ?_ ?_;rotate_left;(simp only [pt_];rfl)
 refine pu_ 11 (some 15) undef (bt_ 34 4095) rfl rfl (Or.inr ⟨by rfl, rfl⟩) ?_ ?_ ?_;rotate_left;(simp only [pt_];rfl)
 refine pu_ 12 (some 16) undef (bt_ 34 8191) rfl rfl (Or.inr ⟨by rfl, rfl⟩) ?_ ?_ ?_;rotate_left;(simp only [pt_];rfl)
 refine pu_ 13 (some 17) undef (bt_ 34 16383) rfl rfl (Or.inr ⟨by rfl, rfl⟩) ?_ ?_ ?_;rotate_left;(simp only [pt_];rfl)
 refine pu_ 14 (some 18) ?_ (bt_ 34 32767) rfl rfl (Or.inl ⟨by rfl, ?_⟩) ?_ ?_ ?_;rotate_left;(intro w';go_simp;with_reducible rfl);rotate_left;(simp only [pt_];rfl)
 refine pu_ 15 (some 19) ?_ (bt_ 34 65535) rfl rfl (Or.inl ⟨by rfl, ?_⟩) ?_ ?_ ?_;rotate_left;(intro w';go_simp;with_reducible rfl);rotate_left;(simp only [pt_];rfl)
 refine pu_ 16 (some 20) undef (bt_ 34 131071) rfl rfl (Or.inr ⟨by rfl, rfl⟩) ?_ ?_ ?_;rotate_left;(simp only [pt_];rfl)
 refine pu_ 17 (some 21) undef (bt_ 34 262143) rfl rfl (Or.inr ⟨by rfl, rfl⟩) ?_ ?_ ?_;rotate_left;(simp only [pt_];rfl)
 refine pu_ 18 (some 22) undef (bt_ 34 524287) rfl rfl (Or.inr ⟨by rfl, rfl⟩) ?_ ?_ ?_;rotate_left;(simp only [pt_];rfl)
 refine pu_ 19 (some 23) undef (bt_ 34 1048575) rfl rfl (Or.inr ⟨by rfl, rfl⟩) ?_ ?_ ?_;rotate_left;(simp only [pt_];rfl)
 refine pu_ 20 (some 24) ?_ (bt_ 34 2097151) rfl rfl (Or.inl ⟨by rfl, ?_⟩) ?_ ?_ ?_;rotate_left;(intro w';go_simp;with_reducible rfl);rotate_left;(simp only [pt_];rfl)
 refine pu_ 21 (some 25) ?_ (bt_ 34 4194303) rfl rfl (Or.inl ⟨by rfl, ?_⟩) ?_ ?_ ?_;rotate_left;(intro w';go_simp;with_reducible rfl);rotate_left;(simp only [pt_];rfl)
 refine pu_ 22 (some 26) undef (bt_ 34 8388607) rfl rfl (Or.inr ⟨by rfl, rfl⟩) ?_ ?_ ?_;rotate_left;(simp only [pt_];rfl)
 refine pu_ 23 (some 27) undef (bt_ 34 16777215) rfl rfl (Or.inr ⟨by rfl, rfl⟩) ?_ ?_ ?_;rotate_left;(simp only [pt_];rfl)
 refine pu_ 24 (some 28) undef (bt_ 34 33554431) rfl rfl (Or.inr ⟨by rfl, rfl⟩) ?_ ?_ ?_;rotate_left;(simp only [pt_];rfl)
 refine pu_ 25 (some 29) undef (bt_ 34 67108863) rfl rfl (Or.inr ⟨by rfl, rfl⟩) ?_ ?_ ?_;rotate_left;(simp only [pt_];rfl)
 refine pu_ 26 (some 30) ?_ (bt_ 34 134217727) rfl rfl (Or.inl ⟨by rfl, ?_⟩) ?_ ?_ ?_;rotate_left;(intro w';go_simp;with_reducible rfl);rotate_left;(simp only [pt_];rfl)
 refine pu_ 27 (some 31) ?_ (bt_ 34 268435455) rfl rfl (Or.inl ⟨by rfl, ?_⟩) ?_ ?_ ?_;rotate_left;(intro w';go_simp;with_reducible rfl);rotate_left;(simp only [pt_];rfl)
 refine pu_ 28 (some 32) undef (bt_ 34 536870911) rfl rfl (Or.inr ⟨by rfl, rfl⟩) ?_ ?_ ?_;rotate_left;(simp only [pt_];rfl)
 refine pu_ 29 (some 33) undef (bt_ 34 1073741823) rfl rfl (Or.inr ⟨by rfl, rfl⟩) ?_ ?_ ?_;rotate_left;(simp only [pt_];rfl)
 refine pu_ 30 (some 34) undef (bt_ 34 2147483647) rfl rfl (Or.inr ⟨by rfl, rfl⟩) ?_ ?_ ?_;rotate_left;(simp only [pt_];rfl)
 refine pu_ 31 (some 35) undef (bt_ 34 4294967295) rfl rfl (Or.inr ⟨by rfl, rfl⟩) ?_ ?_ ?_;rotate_left;(simp only [pt_];rfl)
 refine pu_ 32 (some 36) ?_ (bt_ 34 8589934591) rfl rfl (Or.inl ⟨by rfl, ?_⟩) ?_ ?_ ?_;rotate_left;(intro w';go_simp;with_reducible rfl);rotate_left;(simp only [pt_];rfl)
 refine pu_ 33 (some 2) ?_ (bt_ 34 17179869183) rfl rfl (Or.inl ⟨by rfl, ?_⟩) ?_ ?_ ?_;rotate_left;(intro w';go_simp;with_reducible rfl);rotate_left;(simp only [pt_];rfl)
 refine done_ (by kernel_rfl) ?_
 have HB := aq_ hHeld.2.2.2.2.2.2
 go_wp2
 go_ret
 exact ⟨rfl, HB.out⟩
set_option maxHeartbeats 2000000 in
theorem plain_2 (f : Frm) (w : World) (t0 : kindB f.kind = true) (t1 : inB f.user 0 255 = true) (t2 : inB f.epoch 0 1073741824 = false) : Calls Tryz.prog 89 #[.agg (fca f)] w fun e w' => e = .returned (.bool false) ∧ Below w.heap.size w w' := by
 have T0 := aq_ t0
 have T1 := aq_ t1
 have T2 := aq_ t2
 clear t0 t1 t2
 go_enter Tryz.func89, Tryz.ntmps89
 go_upto_region 2 with (fail)
 have X1 := aq_ (show ((w.alloc (.cells (fca f) 31)).drew).heap[w.heap.size]? = some (.cells (fca f) 31 (0, 0)) from blk_drew (blk_new w _))
 have HB1 := aq_ (show Below w.heap.size w ((w.alloc (.cells (fca f) 31)).drew) from below_drew (below_alloc (Below.refl _ _) _))
 refine start_ (n := 34) (S := fun w' => w'.cell? ⟨w.heap.size, 0, none⟩ = some (.int .i64 f.kind) ∧ w'.cell? ⟨w.heap.size, 1, none⟩ = some (.int .i64 f.user) ∧ w'.cell? ⟨w.heap.size, 4, none⟩ = some (.int .i64 f.epoch) ∧ w'.cell? ⟨w.heap.size, 6, none⟩ = some (.int .i64 f.cmd) ∧ w'.cell? ⟨w.heap.size, 7, none⟩ = some (.int .i64 f.arg) ∧ w'.heap[w.heap.size]? = some (.cells (fca f) 31 (0, 0)) ∧ Below w.heap.size w w') (ds := []) #[false, false, false, false, false, false, false, false, false, false, false, false, false, false, false, false, false, false, false, false, false, false, false, false, false, false, false, false, false, false, false, false, false, false] (by kernel_rfl) rfl rfl ⟨(cellsF X1.out).1, (cellsF X1.out).2.1, (cellsF X1.out).2.2.2.2.1, (cellsF X1.out).2.2.2.2.2.2.1, (cellsF X1.out).2.2.2.2.2.2.2, X1.out, HB1.out⟩ (fun hHeld => ?_)
 refine pu_ 0 (some 4) ?_ (bt_ 34 1) rfl rfl (Or.inl ⟨by rfl, ?_⟩) ?_ ?_ ?_;rotate_left;(intro w';go_simp;with_reducible rfl);rotate_left;(simp only [pt_];rfl)
 refine ta_ 1 (some 5) ?_ (bt_ 34 3) rfl rfl (Or.inl ⟨by rfl, ?_⟩) hHeld ?_ ?_ ?_;rotate_left;(rintro w' ⟨s0, s1, s2, s3, s4, s5, s6⟩;go_simp;with_reducible rfl);rotate_left;(simp only [pt_];rfl)
 refine one_ (i := 2) (N := some 6) (bt_ 34 7) rfl rfl (by kernel_rfl) (by decide) (fun K hK => ?_)
 refine goes_ Tryz.func107 (by kernel_rfl) rfl #[.int .i64 f.kind] (by rfl) rfl rfl (by simp only [List.map_toArray, List.map_cons, List.map_nil]; rfl) ?_
 with_reducible refine (kind_any f.kind _).mono ?_
 rintro e w_ ⟨he_, rfl⟩
 rw [T0.out] at he_
 subst he_
 refine ⟨_, rfl, ?_⟩
 refine hK.out _ _ ⟨(cellsF X1.out).1, (cellsF X1.out).2.1, (cellsF X1.out).2.2.2.2.1, (cellsF X1.out).2.2.2.2.2.2.1, (cellsF X1.out).2.2.2.2.2.2.2, X1.out, HB1.out⟩ (fun hHeld => ?_)
 clear hK K
 refine norm_ (a' := ?_) ?_ ?_
 rotate_left
 ·show Act.put _ (some 6) _ = _
  simp only [pt_]
  rfl
 refine pu_ 3 (some 7) ?_ (bt_ 34 15) rfl rfl (Or.inl ⟨by rfl, ?_⟩) ?_ ?_ ?_;rotate_left;(intro w';go_simp;with_reducible rfl);rotate_left;(simp only [pt_];rfl)
 refine pu_ 4 (some 8) ?_ (bt_ 34 31) rfl rfl (Or.inl ⟨by rfl, ?_⟩) ?_ ?_ ?_;rotate_left;(intro w';go_simp;with_reducible rfl);rotate_left;(simp only [pt_];rfl)
 refine pu_ 5 (some 9) ?_ (bt_ 34 63) rfl rfl (Or.inl ⟨by rfl, ?_⟩) ?_ ?_ ?_;rotate_left;(intro w';go_simp;with_reducible rfl);rotate_left;(simp only [pt_];rfl)
 refine ta_ 6 (some 10) ?_ (bt_ 34 127) rfl rfl (Or.inl ⟨by rfl, ?_⟩) hHeld ?_ ?_ ?_;rotate_left;(rintro w' ⟨s0, s1, s2, s3, s4, s5, s6⟩;go_simp;with_reducible rfl);rotate_left;(simp only [pt_];rfl)
 refine one_ (i := 7) (N := some 11) (bt_ 34 255) rfl rfl (by kernel_rfl) (by decide) (fun K hK => ?_)
 refine goesv_ Tryz.func106 (by kernel_rfl) rfl #[.int .i64 f.user, .int .i64 255] (by rfl) rfl rfl rfl (by simp only [List.map_toArray, List.map_cons, List.map_nil]; rfl) ?_
 with_reducible refine (pin_any f.user 255 _).mono ?_
 rintro e w_ ⟨he_, rfl⟩
 rw [T1.out] at he_
 subst he_
 refine ⟨_, rfl, ?_⟩
 refine hK.out _ _ ⟨(cellsF X1.out).1, (cellsF X1.out).2.1, (cellsF X1.out).2.2.2.2.1, (cellsF X1.out).2.2.2.2.2.2.1, (cellsF X1.out).2.2.2.2.2.2.2, X1.out, HB1.out⟩ (fun hHeld => ?_)
 clear hK K
 refine norm_ (a' := ?_) ?_ ?_
 rotate_left
 ·show Act.put _ (some 11) _ = _
  simp only [pt_]
  rfl
 refine pu_ 8 (some 12) ?_ (bt_ 34 511) rfl rfl (Or.inl ⟨by rfl, ?_⟩) ?_ ?_ ?_;rotate_left;(intro w';go_simp;with_reducible rfl);rotate_left;(simp only [pt_];rfl)
 refine pu_ 9 (some 13) ?_ (bt_ 34 1023) rfl rfl (Or.inl ⟨by rfl, ?_⟩) ?_ ?_ ?_;rotate_left;(intro w';go_simp;with_reducible rfl);rotate_left;(simp only [pt_];rfl)
 refine pu_ 10 (some 14) ?_ (bt_ 34 2047) rfl rfl (Or.inl ⟨by rfl, ?_⟩) ?_ ?_ ?_;rotate_left;(intro w';go_simp;with_reducible rfl);rotate_left;(simp only [pt_];rfl)
 refine pu_ 11 (some 15) ?_ (bt_ 34 4095) rfl rfl (Or.inl ⟨by rfl, ?_⟩) ?_ ?_ ?_;rotate_left;(intro w';go_simp;with_reducible rfl);rotate_left;(simp only [pt_];rfl)
 refine ta_ 12 (some 16) ?_ (bt_ 34 8191) rfl rfl (Or.inl ⟨by rfl, ?_⟩) hHeld ?_ ?_ ?_;rotate_left;(rintro w' ⟨s0, s1, s2, s3, s4, s5, s6⟩;go_simp;with_reducible rfl);rotate_left;(simp only [pt_];rfl)
 refine one_ (i := 13) (N := some 17) (bt_ 34 16383) rfl rfl (by kernel_rfl) (by decide) (fun K hK => ?_)
 refine goesv_ Tryz.func106 (by kernel_rfl) rfl #[.int .i64 f.epoch, .int .i64 1073741824] (by rfl) rfl rfl rfl (by simp only [List.map_toArray, List.map_cons, List.map_nil]; rfl) ?_
 with_reducible refine (pin_any f.epoch 1073741824 _).mono ?_
 rintro e w_ ⟨he_, rfl⟩
 rw [T2.out] at he_
 subst he_
 refine ⟨_, rfl, ?_⟩
 refine hK.out _ _ ⟨(cellsF X1.out).1, (cellsF X1.out).2.1, (cellsF X1.out).2.2.2.2.1, (cellsF X1.out).2.2.2.2.2.2.1, (cellsF X1.out).2.2.2.2.2.2.2, X1.out, HB1.out⟩ (fun hHeld => ?_)
 clear hK K
 refine norm_ (a' := ?_) ?_ ?_
 rotate_left
 ·show Act.put _ (some 17) _ = _
  simp only [pt_]
  rfl
 refine pu_ 14 (some 18) ?_ (bt_ 34 32767) rfl rfl (Or.inl ⟨by rfl, ?_⟩) ?_ ?_ ?_;rotate_left;(intro w';go_simp;with_reducible rfl);rotate_left;(simp only [pt_];rfl)
 refine pu_ 15 (some 19) ?_ (bt_ 34 65535) rfl rfl (Or.inl ⟨by rfl, ?_⟩) ?_ ?_ ?_;rotate_left;(intro w';go_simp;with_reducible rfl);rotate_left;(simp only [pt_];rfl)
 refine pu_ 16 (some 20) undef (bt_ 34 131071) rfl rfl (Or.inr ⟨by rfl, rfl⟩) ?_ ?_ ?_;rotate_left;(simp only [pt_];rfl)
 refine pu_ 17 (some 21) undef (bt_ 34 262143) rfl rfl (Or.inr ⟨by rfl, rfl⟩) ?_ ?_ ?_;rotate_left;(simp only [pt_];rfl)
 refine pu_ 18 (some 22) undef (bt_ 34 524287) rfl rfl (Or.inr ⟨by rfl, rfl⟩) ?_ ?_ ?_;rotate_left;(simp only [pt_];rfl)
 refine pu_ 19 (some 23) undef (bt_ 34 1048575) rfl rfl (Or.inr ⟨by rfl, rfl⟩) ?_ ?_ ?_;rotate_left;(simp only [pt_];rfl)
 refine pu_ 20 (some 24) ?_ (bt_ 34 2097151) rfl rfl (Or.inl ⟨by rfl, ?_⟩) ?_ ?_ ?_;rotate_left;(intro w';go_simp;with_reducible rfl);rotate_left;(simp only [pt_];rfl)
 refine pu_ 21 (some 25) ?_ (bt_ 34 4194303) rfl rfl (Or.inl ⟨by rfl, ?_⟩) ?_ ?_ ?_;rotate_left;(intro w';go_simp;with_reducible rfl);rotate_left;(simp only [pt_];rfl)
 refine pu_ 22 (some 26) undef (bt_ 34 8388607) rfl rfl (Or.inr ⟨by rfl, rfl⟩) ?_ ?_ ?_;rotate_left;(simp only [pt_];rfl)
 refine pu_ 23 (some 27) undef (bt_ 34 16777215) rfl rfl (Or.inr ⟨by rfl, rfl⟩) ?_ ?_ ?_;rotate_left;(simp only [pt_];rfl)
 refine pu_ 24 (some 28) undef (bt_ 34 33554431) rfl rfl (Or.inr ⟨by rfl, rfl⟩) ?_ ?_ ?_;rotate_left;(simp only [pt_];rfl)
 refine pu_ 25 (some 29) undef (bt_ 34 67108863) rfl rfl (Or.inr ⟨by rfl, rfl⟩) ?_ ?_ ?_;rotate_left;(simp only [pt_];rfl)
 refine pu_ 26 (some 30) ?_ (bt_ 34 134217727) rfl rfl (Or.inl ⟨by rfl, ?_⟩) ?_ ?_ ?_;rotate_left;(intro w';go_simp;with_reducible rfl);rotate_left;(simp only [pt_];rfl)
 refine pu_ 27 (some 31) ?_ (bt_ 34 268435455) rfl rfl (Or.inl ⟨by rfl, ?_⟩) ?_ ?_ ?_;rotate_left;(intro w';go_simp;with_reducible rfl);rotate_left;(simp only [pt_];rfl)
 refine pu_ 28 (some 32) undef (bt_ 34 536870911) rfl rfl (Or.inr ⟨by rfl, rfl⟩) ?_ ?_ ?_;rotate_left;(simp only [pt_];rfl)
 refine pu_ 29 (some 33) undef (bt_ 34 1073741823) rfl rfl (Or.inr ⟨by rfl, rfl⟩) ?_ ?_ ?_;rotate_left;(simp only [pt_];rfl)
 refine pu_ 30 (some 34) undef (bt_ 34 2147483647) rfl rfl (Or.inr ⟨by rfl, rfl⟩) ?_ ?_ ?_;rotate_left;(simp only [pt_];rfl)
 refine pu_ 31 (some 35) undef (bt_ 34 4294967295) rfl rfl (Or.inr ⟨by rfl, rfl⟩) ?_ ?_ ?_;rotate_left;(simp only [pt_];rfl)
 refine pu_ 32 (some 36) ?_ (bt_ 34 8589934591) rfl rfl (Or.inl ⟨by rfl, ?_⟩) ?_ ?_ ?_;rotate_left;(intro w';go_simp;with_reducible rfl);rotate_left;(simp only [pt_];rfl)
 refine pu_ 33 (some 2) ?_ (bt_ 34 17179869183) rfl rfl (Or.inl ⟨by rfl, ?_⟩) ?_ ?_ ?_;rotate_left;(intro w';go_simp;with_reducible rfl);rotate_left;(simp only [pt_];rfl)
 refine done_ (by kernel_rfl) ?_
 have HB := aq_ hHeld.2.2.2.2.2.2
 go_wp2
 go_ret
 exact ⟨rfl, HB.out⟩
set_option maxHeartbeats 2000000 in
theorem plain_3 (f : Frm) (w : World) (t0 : kindB f.kind = true) (t1 : inB f.user 0 255 = true) (t2 : inB f.epoch 0 1073741824 = true) (t3 : inB f.cmd 0 255 = false) : Calls Tryz.prog 89 #[.agg (fca f)] w fun e w' => e = .returned (.bool false) ∧ Below w.heap.size w w' := by
 have T0 := aq_ t0
 have T1 := aq_ t1
 have T2 := aq_ t2
 have T3 := aq_ t3
 clear t0 t1 t2 t3
 go_enter Tryz.func89, Tryz.ntmps89
 go_upto_region 2 with (fail)
 have X1 := aq_ (show ((w.alloc (.cells (fca f) 31)).drew).heap[w.heap.size]? = some (.cells (fca f) 31 (0, 0)) from blk_drew (blk_new w _))
 have HB1 := aq_ (show Below w.heap.size w ((w.alloc (.cells (fca f) 31)).drew) from below_drew (below_alloc (Below.refl _ _) _))
 refine start_ (n := 34) (S := fun w' => w'.cell? ⟨w.heap.size, 0, none⟩ = some (.int .i64 f.kind) ∧ w'.cell? ⟨w.heap.size, 1, none⟩ = some (.int .i64 f.user) ∧ w'.cell? ⟨w.heap.size, 4, none⟩ = some (.int .i64 f.epoch) ∧ w'.cell? ⟨w.heap.size, 6, none⟩ = some (.int .i64 f.cmd) ∧ w'.cell? ⟨w.heap.size, 7, none⟩ = some (.int .i64 f.arg) ∧ w'.heap[w.heap.size]? = some (.cells (fca f) 31 (0, 0)) ∧ Below w.heap.size w w') (ds := []) #[false, false, false, false, false, false, false, false, false, false, false, false, false, false, false, false, false, false, false, false, false, false, false, false, false, false, false, false, false, false, false, false, false, false] (by kernel_rfl) rfl rfl ⟨(cellsF X1.out).1, (cellsF X1.out).2.1, (cellsF X1.out).2.2.2.2.1, (cellsF X1.out).2.2.2.2.2.2.1, (cellsF X1.out).2.2.2.2.2.2.2, X1.out, HB1.out⟩ (fun hHeld => ?_)
 refine pu_ 0 (some 4) ?_ (bt_ 34 1) rfl rfl (Or.inl ⟨by rfl, ?_⟩) ?_ ?_ ?_;rotate_left;(intro w';go_simp;with_reducible rfl);rotate_left;(simp only [pt_];rfl)
 refine ta_ 1 (some 5) ?_ (bt_ 34 3) rfl rfl (Or.inl ⟨by rfl, ?_⟩) hHeld ?_ ?_ ?_;rotate_left;(rintro w' ⟨s0, s1, s2, s3, s4, s5, s6⟩;go_simp;with_reducible rfl);rotate_left;(simp only [pt_];rfl)
 refine one_ (i := 2) (N := some 6) (bt_ 34 7) rfl rfl (by kernel_rfl) (by decide) (fun K hK => ?_)
 refine goes_ Tryz.func107 (by kernel_rfl) rfl #[.int .i64 f.kind] (by rfl) rfl rfl (by simp only [List.map_toArray, List.map_cons, List.map_nil]; rfl) ?_
 with_reducible refine (kind_any f.kind _).mono ?_
 rintro e w_ ⟨he_, rfl⟩
 rw [T0.out] at he_
 subst he_
 refine ⟨_, rfl, ?_⟩
 refine hK.out _ _ ⟨(cellsF X1.out).1, (cellsF X1.out).2.1, (cellsF X1.out).2.2.2.2.1, (cellsF X1.out).2.2.2.2.2.2.1, (cellsF X1.out).2.2.2.2.2.2.2, X1.out, HB1.out⟩ (fun hHeld => ?_)
 clear hK K
 refine norm_ (a' := ?_) ?_ ?_
 rotate_left
 ·show Act.put _ (some 6) _ = _
  simp only [pt_]
  rfl
 refine pu_ 3 (some 7) ?_ (bt_ 34 15) rfl rfl (Or.inl ⟨by rfl, ?_⟩) ?_ ?_ ?_;rotate_left;(intro w';go_simp;with_reducible rfl);rotate_left;(simp only [pt_];rfl)
 refine pu_ 4 (some 8) ?_ (bt_ 34 31) rfl rfl (Or.inl ⟨by rfl, ?_⟩) ?_ ?_ ?_;rotate_left;(intro w';go_simp;with_reducible rfl);rotate_left;(simp only [pt_];rfl)
 refine pu_ 5 (some 9) ?_ (bt_ 34 63) rfl rfl (Or.inl ⟨by rfl, ?_⟩) ?_ ?_ ?_;rotate_left;(intro w';go_simp;with_reducible rfl);rotate_left;(simp only [pt_];rfl)
 refine ta_ 6 (some 10) ?_ (bt_ 34 127) rfl rfl (Or.inl ⟨by rfl, ?_⟩) hHeld ?_ ?_ ?_;rotate_left;(rintro w' ⟨s0, s1, s2, s3, s4, s5, s6⟩;go_simp;with_reducible rfl);rotate_left;(simp only [pt_];rfl)
 refine one_ (i := 7) (N := some 11) (bt_ 34 255) rfl rfl (by kernel_rfl) (by decide) (fun K hK => ?_)
 refine goesv_ Tryz.func106 (by kernel_rfl) rfl #[.int .i64 f.user, .int .i64 255] (by rfl) rfl rfl rfl (by simp only [List.map_toArray, List.map_cons, List.map_nil]; rfl) ?_
 with_reducible refine (pin_any f.user 255 _).mono ?_
 rintro e w_ ⟨he_, rfl⟩
 rw [T1.out] at he_
 subst he_
 refine ⟨_, rfl, ?_⟩
 refine hK.out _ _ ⟨(cellsF X1.out).1, (cellsF X1.out).2.1, (cellsF X1.out).2.2.2.2.1, (cellsF X1.out).2.2.2.2.2.2.1, (cellsF X1.out).2.2.2.2.2.2.2, X1.out, HB1.out⟩ (fun hHeld => ?_)
 clear hK K
 refine norm_ (a' := ?_) ?_ ?_
 rotate_left
 ·show Act.put _ (some 11) _ = _
  simp only [pt_]
  rfl
 refine pu_ 8 (some 12) ?_ (bt_ 34 511) rfl rfl (Or.inl ⟨by rfl, ?_⟩) ?_ ?_ ?_;rotate_left;(intro w';go_simp;with_reducible rfl);rotate_left;(simp only [pt_];rfl)
 refine pu_ 9 (some 13) ?_ (bt_ 34 1023) rfl rfl (Or.inl ⟨by rfl, ?_⟩) ?_ ?_ ?_;rotate_left;(intro w';go_simp;with_reducible rfl);rotate_left;(simp only [pt_];rfl)
 refine pu_ 10 (some 14) ?_ (bt_ 34 2047) rfl rfl (Or.inl ⟨by rfl, ?_⟩) ?_ ?_ ?_;rotate_left;(intro w';go_simp;with_reducible rfl);rotate_left;(simp only [pt_];rfl)
 refine pu_ 11 (some 15) ?_ (bt_ 34 4095) rfl rfl (Or.inl ⟨by rfl, ?_⟩) ?_ ?_ ?_;rotate_left;(intro w';go_simp;with_reducible rfl);rotate_left;(simp only [pt_];rfl)
 refine ta_ 12 (some 16) ?_ (bt_ 34 8191) rfl rfl (Or.inl ⟨by rfl, ?_⟩) hHeld ?_ ?_ ?_;rotate_left;(rintro w' ⟨s0, s1, s2, s3, s4, s5, s6⟩;go_simp;with_reducible rfl);rotate_left;(simp only [pt_];rfl)
 refine one_ (i := 13) (N := some 17) (bt_ 34 16383) rfl rfl (by kernel_rfl) (by decide) (fun K hK => ?_)
 refine goesv_ Tryz.func106 (by kernel_rfl) rfl #[.int .i64 f.epoch, .int .i64 1073741824] (by rfl) rfl rfl rfl (by simp only [List.map_toArray, List.map_cons, List.map_nil]; rfl) ?_
 with_reducible refine (pin_any f.epoch 1073741824 _).mono ?_
 rintro e w_ ⟨he_, rfl⟩
 rw [T2.out] at he_
 subst he_
 refine ⟨_, rfl, ?_⟩
 refine hK.out _ _ ⟨(cellsF X1.out).1, (cellsF X1.out).2.1, (cellsF X1.out).2.2.2.2.1, (cellsF X1.out).2.2.2.2.2.2.1, (cellsF X1.out).2.2.2.2.2.2.2, X1.out, HB1.out⟩ (fun hHeld => ?_)
 clear hK K
 refine norm_ (a' := ?_) ?_ ?_
 rotate_left
 ·show Act.put _ (some 17) _ = _
  simp only [pt_]
  rfl
 refine pu_ 14 (some 18) ?_ (bt_ 34 32767) rfl rfl (Or.inl ⟨by rfl, ?_⟩) ?_ ?_ ?_;rotate_left;(intro w';go_simp;with_reducible rfl);rotate_left;(simp only [pt_];rfl)
 refine pu_ 15 (some 19) ?_ (bt_ 34 65535) rfl rfl (Or.inl ⟨by rfl, ?_⟩) ?_ ?_ ?_;rotate_left;(intro w';go_simp;with_reducible rfl);rotate_left;(simp only [pt_];rfl)
 refine pu_ 16 (some 20) ?_ (bt_ 34 131071) rfl rfl (Or.inl ⟨by rfl, ?_⟩) ?_ ?_ ?_;rotate_left;(intro w';go_simp;with_reducible rfl);rotate_left;(simp only [pt_];rfl)
 refine pu_ 17 (some 21) ?_ (bt_ 34 262143) rfl rfl (Or.inl ⟨by rfl, ?_⟩) ?_ ?_ ?_;rotate_left;(intro w';go_simp;with_reducible rfl);rotate_left;(simp only [pt_];rfl)
 refine ta_ 18 (some 22) ?_ (bt_ 34 524287) rfl rfl (Or.inl ⟨by rfl, ?_⟩) hHeld ?_ ?_ ?_;rotate_left;(rintro w' ⟨s0, s1, s2, s3, s4, s5, s6⟩;go_simp;with_reducible rfl);rotate_left;(simp only [pt_];rfl)
 refine one_ (i := 19) (N := some 23) (bt_ 34 1048575) rfl rfl (by kernel_rfl) (by decide) (fun K hK => ?_)
 refine goesv_ Tryz.func106 (by kernel_rfl) rfl #[.int .i64 f.cmd, .int .i64 255] (by rfl) rfl rfl rfl (by simp only [List.map_toArray, List.map_cons, List.map_nil]; rfl) ?_
 with_reducible refine (pin_any f.cmd 255 _).mono ?_
 rintro e w_ ⟨he_, rfl⟩
 rw [T3.out] at he_
 subst he_
 refine ⟨_, rfl, ?_⟩
 refine hK.out _ _ ⟨(cellsF X1.out).1, (cellsF X1.out).2.1, (cellsF X1.out).2.2.2.2.1, (cellsF X1.out).2.2.2.2.2.2.1, (cellsF X1.out).2.2.2.2.2.2.2, X1.out, HB1.out⟩ (fun hHeld => ?_)
 clear hK K
 refine norm_ (a' := ?_) ?_ ?_
 rotate_left
 ·show Act.put _ (some 23) _ = _
  simp only [pt_]
  rfl
 refine pu_ 20 (some 24) ?_ (bt_ 34 2097151) rfl rfl (Or.inl ⟨by rfl, ?_⟩) ?_ ?_ ?_;rotate_left;(intro w';go_simp;with_reducible rfl);rotate_left;(simp only [pt_];rfl)
 refine pu_ 21 (some 25) ?_ (bt_ 34 4194303) rfl rfl (Or.inl ⟨by rfl, ?_⟩) ?_ ?_ ?_;rotate_left;(intro w';go_simp;with_reducible rfl);rotate_left;(simp only [pt_];rfl)
 refine pu_ 22 (some 26) undef (bt_ 34 8388607) rfl rfl (Or.inr ⟨by rfl, rfl⟩) ?_ ?_ ?_;rotate_left;(simp only [pt_];rfl)
 refine pu_ 23 (some 27) undef (bt_ 34 16777215) rfl rfl (Or.inr ⟨by rfl, rfl⟩) ?_ ?_ ?_;rotate_left;(simp only [pt_];rfl)
 refine pu_ 24 (some 28) undef (bt_ 34 33554431) rfl rfl (Or.inr ⟨by rfl, rfl⟩) ?_ ?_ ?_;rotate_left;(simp only [pt_];rfl)
 refine pu_ 25 (some 29) undef (bt_ 34 67108863) rfl rfl (Or.inr ⟨by rfl, rfl⟩) ?_ ?_ ?_;rotate_left;(simp only [pt_];rfl)
 refine pu_ 26 (some 30) ?_ (bt_ 34 134217727) rfl rfl (Or.inl ⟨by rfl, ?_⟩) ?_ ?_ ?_;rotate_left;(intro w';go_simp;with_reducible rfl);rotate_left;(simp only [pt_];rfl)
 refine pu_ 27 (some 31) ?_ (bt_ 34 268435455) rfl rfl (Or.inl ⟨by rfl, ?_⟩) ?_ ?_ ?_;rotate_left;(intro w';go_simp;with_reducible rfl);rotate_left;(simp only [pt_];rfl)
 refine pu_ 28 (some 32) undef (bt_ 34 536870911) rfl rfl (Or.inr ⟨by rfl, rfl⟩) ?_ ?_ ?_;rotate_left;(simp only [pt_];rfl)
 refine pu_ 29 (some 33) undef (bt_ 34 1073741823) rfl rfl (Or.inr ⟨by rfl, rfl⟩) ?_ ?_ ?_;rotate_left;(simp only [pt_];rfl)
 refine pu_ 30 (some 34) undef (bt_ 34 2147483647) rfl rfl (Or.inr ⟨by rfl, rfl⟩) ?_ ?_ ?_;rotate_left;(simp only [pt_];rfl)
 refine pu_ 31 (some 35) undef (bt_ 34 4294967295) rfl rfl (Or.inr ⟨by rfl, rfl⟩) ?_ ?_ ?_;rotate_left;(simp only [pt_];rfl)
 refine pu_ 32 (some 36) ?_ (bt_ 34 8589934591) rfl rfl (Or.inl ⟨by rfl, ?_⟩) ?_ ?_ ?_;rotate_left;(intro w';go_simp;with_reducible rfl);rotate_left;(simp only [pt_];rfl)
 refine pu_ 33 (some 2) ?_ (bt_ 34 17179869183) rfl rfl (Or.inl ⟨by rfl, ?_⟩) ?_ ?_ ?_;rotate_left;(intro w';go_simp;with_reducible rfl);rotate_left;(simp only [pt_];rfl)
 refine done_ (by kernel_rfl) ?_
 have HB := aq_ hHeld.2.2.2.2.2.2
 go_wp2
 go_ret
 exact ⟨rfl, HB.out⟩
set_option maxHeartbeats 2000000 in
theorem plain_4 (f : Frm) (w : World) (t0 : kindB f.kind = true) (t1 : inB f.user 0 255 = true) (t2 : inB f.epoch 0 1073741824 = true) (t3 : inB f.cmd 0 255 = true) (t4 : inB f.arg 0 65535 = false) : Calls Tryz.prog 89 #[.agg (fca f)] w fun e w' => e = .returned (.bool false) ∧ Below w.heap.size w w' := by
 have T0 := aq_ t0
 have T1 := aq_ t1
 have T2 := aq_ t2
 have T3 := aq_ t3
 have T4 := aq_ t4
 clear t0 t1 t2 t3 t4
 go_enter Tryz.func89, Tryz.ntmps89
 go_upto_region 2 with (fail)
 have X1 := aq_ (show ((w.alloc (.cells (fca f) 31)).drew).heap[w.heap.size]? = some (.cells (fca f) 31 (0, 0)) from blk_drew (blk_new w _))
 have HB1 := aq_ (show Below w.heap.size w ((w.alloc (.cells (fca f) 31)).drew) from below_drew (below_alloc (Below.refl _ _) _))
 refine start_ (n := 34) (S := fun w' => w'.cell? ⟨w.heap.size, 0, none⟩ = some (.int .i64 f.kind) ∧ w'.cell? ⟨w.heap.size, 1, none⟩ = some (.int .i64 f.user) ∧ w'.cell? ⟨w.heap.size, 4, none⟩ = some (.int .i64 f.epoch) ∧ w'.cell? ⟨w.heap.size, 6, none⟩ = some (.int .i64 f.cmd) ∧ w'.cell? ⟨w.heap.size, 7, none⟩ = some (.int .i64 f.arg) ∧ w'.heap[w.heap.size]? = some (.cells (fca f) 31 (0, 0)) ∧ Below w.heap.size w w') (ds := []) #[false, false, false, false, false, false, false, false, false, false, false, false, false, false, false, false, false, false, false, false, false, false, false, false, false, false, false, false, false, false, false, false, false, false] (by kernel_rfl) rfl rfl ⟨(cellsF X1.out).1, (cellsF X1.out).2.1, (cellsF X1.out).2.2.2.2.1, (cellsF X1.out).2.2.2.2.2.2.1, (cellsF X1.out).2.2.2.2.2.2.2, X1.out, HB1.out⟩ (fun hHeld => ?_)
 refine pu_ 0 (some 4) ?_ (bt_ 34 1) rfl rfl (Or.inl ⟨by rfl, ?_⟩) ?_ ?_ ?_;rotate_left;(intro w';go_simp;with_reducible rfl);rotate_left;(simp only [pt_];rfl)
 refine ta_ 1 (some 5) ?_ (bt_ 34 3) rfl rfl (Or.inl ⟨by rfl, ?_⟩) hHeld ?_ ?_ ?_;rotate_left;(rintro w' ⟨s0, s1, s2, s3, s4, s5, s6⟩;go_simp;with_reducible rfl);rotate_left;(simp only [pt_];rfl)
 refine one_ (i := 2) (N := some 6) (bt_ 34 7) rfl rfl (by kernel_rfl) (by decide) (fun K hK => ?_)
 refine goes_ Tryz.func107 (by kernel_rfl) rfl #[.int .i64 f.kind] (by rfl) rfl rfl (by simp only [List.map_toArray, List.map_cons, List.map_nil]; rfl) ?_
 with_reducible refine (kind_any f.kind _).mono ?_
 rintro e w_ ⟨he_, rfl⟩
 rw [T0.out] at he_
 subst he_
 refine ⟨_, rfl, ?_⟩
 refine hK.out _ _ ⟨(cellsF X1.out).1, (cellsF X1.out).2.1, (cellsF X1.out).2.2.2.2.1, (cellsF X1.out).2.2.2.2.2.2.1, (cellsF X1.out).2.2.2.2.2.2.2, X1.out, HB1.out⟩ (fun hHeld => ?_)
 clear hK K
 refine norm_ (a' := ?_) ?_ ?_
 rotate_left
 ·show Act.put _ (some 6) _ = _
  simp only [pt_]
  rfl
 refine pu_ 3 (some 7) ?_ (bt_ 34 15) rfl rfl (Or.inl ⟨by rfl, ?_⟩) ?_ ?_ ?_;rotate_left;(intro w';go_simp;with_reducible rfl);rotate_left;(simp only [pt_];rfl)
 refine pu_ 4 (some 8) ?_ (bt_ 34 31) rfl rfl (Or.inl ⟨by rfl, ?_⟩) ?_ ?_ ?_;rotate_left;(intro w';go_simp;with_reducible rfl);rotate_left;(simp only [pt_];rfl)
 refine pu_ 5 (some 9) ?_ (bt_ 34 63) rfl rfl (Or.inl ⟨by rfl, ?_⟩) ?_ ?_ ?_;rotate_left;(intro w';go_simp;with_reducible rfl);rotate_left;(simp only [pt_];rfl)
 refine ta_ 6 (some 10) ?_ (bt_ 34 127) rfl rfl (Or.inl ⟨by rfl, ?_⟩) hHeld ?_ ?_ ?_;rotate_left;(rintro w' ⟨s0, s1, s2, s3, s4, s5, s6⟩;go_simp;with_reducible rfl);rotate_left;(simp only [pt_];rfl)
 refine one_ (i := 7) (N := some 11) (bt_ 34 255) rfl rfl (by kernel_rfl) (by decide) (fun K hK => ?_)
 refine goesv_ Tryz.func106 (by kernel_rfl) rfl #[.int .i64 f.user, .int .i64 255] (by rfl) rfl rfl rfl (by simp only [List.map_toArray, List.map_cons, List.map_nil]; rfl) ?_
 with_reducible refine (pin_any f.user 255 _).mono ?_
 rintro e w_ ⟨he_, rfl⟩
 rw [T1.out] at he_
 subst he_
 refine ⟨_, rfl, ?_⟩
 refine hK.out _ _ ⟨(cellsF X1.out).1, (cellsF X1.out).2.1, (cellsF X1.out).2.2.2.2.1, (cellsF X1.out).2.2.2.2.2.2.1, (cellsF X1.out).2.2.2.2.2.2.2, X1.out, HB1.out⟩ (fun hHeld => ?_)
 clear hK K
 refine norm_ (a' := ?_) ?_ ?_
 rotate_left
 ·show Act.put _ (some 11) _ = _
  simp only [pt_]
  rfl
 refine pu_ 8 (some 12) ?_ (bt_ 34 511) rfl rfl (Or.inl ⟨by rfl, ?_⟩) ?_ ?_ ?_;rotate_left;(intro w';go_simp;with_reducible rfl);rotate_left;(simp only [pt_];rfl)
 refine pu_ 9 (some 13) ?_ (bt_ 34 1023) rfl rfl (Or.inl ⟨by rfl, ?_⟩) ?_ ?_ ?_;rotate_left;(intro w';go_simp;with_reducible rfl);rotate_left;(simp only [pt_];rfl)
 refine pu_ 10 (some 14) ?_ (bt_ 34 2047) rfl rfl (Or.inl ⟨by rfl, ?_⟩) ?_ ?_ ?_;rotate_left;(intro w';go_simp;with_reducible rfl);rotate_left;(simp only [pt_];rfl)
 refine pu_ 11 (some 15) ?_ (bt_ 34 4095) rfl rfl (Or.inl ⟨by rfl, ?_⟩) ?_ ?_ ?_;rotate_left;(intro w';go_simp;with_reducible rfl);rotate_left;(simp only [pt_];rfl)
 refine ta_ 12 (some 16) ?_ (bt_ 34 8191) rfl rfl (Or.inl ⟨by rfl, ?_⟩) hHeld ?_ ?_ ?_;rotate_left;(rintro w' ⟨s0, s1, s2, s3, s4, s5, s6⟩;go_simp;with_reducible rfl);rotate_left;(simp only [pt_];rfl)
 refine one_ (i := 13) (N := some 17) (bt_ 34 16383) rfl rfl (by kernel_rfl) (by decide) (fun K hK => ?_)
 refine goesv_ Tryz.func106 (by kernel_rfl) rfl #[.int .i64 f.epoch, .int .i64 1073741824] (by rfl) rfl rfl rfl (by simp only [List.map_toArray, List.map_cons, List.map_nil]; rfl) ?_
 with_reducible refine (pin_any f.epoch 1073741824 _).mono ?_
 rintro e w_ ⟨he_, rfl⟩
 rw [T2.out] at he_
 subst he_
 refine ⟨_, rfl, ?_⟩
 refine hK.out _ _ ⟨(cellsF X1.out).1, (cellsF X1.out).2.1, (cellsF X1.out).2.2.2.2.1, (cellsF X1.out).2.2.2.2.2.2.1, (cellsF X1.out).2.2.2.2.2.2.2, X1.out, HB1.out⟩ (fun hHeld => ?_)
 clear hK K
 refine norm_ (a' := ?_) ?_ ?_
 rotate_left
 ·show Act.put _ (some 17) _ = _
  simp only [pt_]
  rfl
 refine pu_ 14 (some 18) ?_ (bt_ 34 32767) rfl rfl (Or.inl ⟨by rfl, ?_⟩) ?_ ?_ ?_;rotate_left;(intro w';go_simp;with_reducible rfl);rotate_left;(simp only [pt_];rfl)
 refine pu_ 15 (some 19) ?_ (bt_ 34 65535) rfl rfl (Or.inl ⟨by rfl, ?_⟩) ?_ ?_ ?_;rotate_left;(intro w';go_simp;with_reducible rfl);rotate_left;(simp only [pt_];rfl)
 refine pu_ 16 (some 20) ?_ (bt_ 34 131071) rfl rfl (Or.inl ⟨by rfl, ?_⟩) ?_ ?_ ?_;rotate_left;(intro w';go_simp;with_reducible rfl);rotate_left;(simp only [pt_];rfl)
 refine pu_ 17 (some 21) ?_ (bt_ 34 262143) rfl rfl (Or.inl ⟨by rfl, ?_⟩) ?_ ?_ ?_;rotate_left;(intro w';go_simp;with_reducible rfl);rotate_left;(simp only [pt_];rfl)
 refine ta_ 18 (some 22) ?_ (bt_ 34 524287) rfl rfl (Or.inl ⟨by rfl, ?_⟩) hHeld ?_ ?_ ?_;rotate_left;(rintro w' ⟨s0, s1, s2, s3, s4, s5, s6⟩;go_simp;with_reducible rfl);rotate_left;(simp only [pt_];rfl)
 refine one_ (i := 19) (N := some 23) (bt_ 34 1048575) rfl rfl (by kernel_rfl) (by decide) (fun K hK => ?_)
 refine goesv_ Tryz.func106 (by kernel_rfl) rfl #[.int .i64 f.cmd, .int .i64 255] (by rfl) rfl rfl rfl (by simp only [List.map_toArray, List.map_cons, List.map_nil]; rfl) ?_
 with_reducible refine (pin_any f.cmd 255 _).mono ?_
 rintro e w_ ⟨he_, rfl⟩
 rw [T3.out] at he_
 subst he_
 refine ⟨_, rfl, ?_⟩
 refine hK.out _ _ ⟨(cellsF X1.out).1, (cellsF X1.out).2.1, (cellsF X1.out).2.2.2.2.1, (cellsF X1.out).2.2.2.2.2.2.1, (cellsF X1.out).2.2.2.2.2.2.2, X1.out, HB1.out⟩ (fun hHeld => ?_)
 clear hK K
 refine norm_ (a' := ?_) ?_ ?_
 rotate_left
 ·show Act.put _ (some 23) _ = _
  simp only [pt_]
  rfl
 refine pu_ 20 (some 24) ?_ (bt_ 34 2097151) rfl rfl (Or.inl ⟨by rfl, ?_⟩) ?_ ?_ ?_;rotate_left;(intro w';go_simp;with_reducible rfl);rotate_left;(simp only [pt_];rfl)
 refine pu_ 21 (some 25) ?_ (bt_ 34 4194303) rfl rfl (Or.inl ⟨by rfl, ?_⟩) ?_ ?_ ?_;rotate_left;(intro w';go_simp;with_reducible rfl);rotate_left;(simp only [pt_];rfl)
 refine pu_ 22 (some 26) ?_ (bt_ 34 8388607) rfl rfl (Or.inl ⟨by rfl, ?_⟩) ?_ ?_ ?_;rotate_left;(intro w';go_simp;with_reducible rfl);rotate_left;(simp only [pt_];rfl)
 refine pu_ 23 (some 27) ?_ (bt_ 34 16777215) rfl rfl (Or.inl ⟨by rfl, ?_⟩) ?_ ?_ ?_;rotate_left;(intro w';go_simp;with_reducible rfl);rotate_left;(simp only [pt_];rfl)
 refine ta_ 24 (some 28) ?_ (bt_ 34 33554431) rfl rfl (Or.inl ⟨by rfl, ?_⟩) hHeld ?_ ?_ ?_;rotate_left;(rintro w' ⟨s0, s1, s2, s3, s4, s5, s6⟩;go_simp;with_reducible rfl);rotate_left;(simp only [pt_];rfl)
 refine one_ (i := 25) (N := some 29) (bt_ 34 67108863) rfl rfl (by kernel_rfl) (by decide) (fun K hK => ?_)
 refine goesv_ Tryz.func106 (by kernel_rfl) rfl #[.int .i64 f.arg, .int .i64 65535] (by rfl) rfl rfl rfl (by simp only [List.map_toArray, List.map_cons, List.map_nil]; rfl) ?_
 with_reducible refine (pin_any f.arg 65535 _).mono ?_
 rintro e w_ ⟨he_, rfl⟩
 rw [T4.out] at he_
 subst he_
 refine ⟨_, rfl, ?_⟩
 refine hK.out _ _ ⟨(cellsF X1.out).1, (cellsF X1.out).2.1, (cellsF X1.out).2.2.2.2.1, (cellsF X1.out).2.2.2.2.2.2.1, (cellsF X1.out).2.2.2.2.2.2.2, X1.out, HB1.out⟩ (fun hHeld => ?_)
 clear hK K
 refine norm_ (a' := ?_) ?_ ?_
 rotate_left
 ·show Act.put _ (some 29) _ = _
  simp only [pt_]
  rfl
 refine pu_ 26 (some 30) ?_ (bt_ 34 134217727) rfl rfl (Or.inl ⟨by rfl, ?_⟩) ?_ ?_ ?_;rotate_left;(intro w';go_simp;with_reducible rfl);rotate_left;(simp only [pt_];rfl)
 refine pu_ 27 (some 31) ?_ (bt_ 34 268435455) rfl rfl (Or.inl ⟨by rfl, ?_⟩) ?_ ?_ ?_;rotate_left;(intro w';go_simp;with_reducible rfl);rotate_left;(simp only [pt_];rfl)
 refine pu_ 28 (some 32) undef (bt_ 34 536870911) rfl rfl (Or.inr ⟨by rfl, rfl⟩) ?_ ?_ ?_;rotate_left;(simp only [pt_];rfl)
 refine pu_ 29 (some 33) undef (bt_ 34 1073741823) rfl rfl (Or.inr ⟨by rfl, rfl⟩) ?_ ?_ ?_;rotate_left;(simp only [pt_];rfl)
 refine pu_ 30 (some 34) undef (bt_ 34 2147483647) rfl rfl (Or.inr ⟨by rfl, rfl⟩) ?_ ?_ ?_;rotate_left;(simp only [pt_];rfl)
 refine pu_ 31 (some 35) undef (bt_ 34 4294967295) rfl rfl (Or.inr ⟨by rfl, rfl⟩) ?_ ?_ ?_;rotate_left;(simp only [pt_];rfl)
 refine pu_ 32 (some 36) ?_ (bt_ 34 8589934591) rfl rfl (Or.inl ⟨by rfl, ?_⟩) ?_ ?_ ?_;rotate_left;(intro w';go_simp;with_reducible rfl);rotate_left;(simp only [pt_];rfl)
 refine pu_ 33 (some 2) ?_ (bt_ 34 17179869183) rfl rfl (Or.inl ⟨by rfl, ?_⟩) ?_ ?_ ?_;rotate_left;(intro w';go_simp;with_reducible rfl);rotate_left;(simp only [pt_];rfl)
 refine done_ (by kernel_rfl) ?_
 have HB := aq_ hHeld.2.2.2.2.2.2
 go_wp2
 go_ret
 exact ⟨rfl, HB.out⟩
set_option maxHeartbeats 2000000 in
theorem plain_5 (f : Frm) (w : World) (t0 : kindB f.kind = true) (t1 : inB f.user 0 255 = true) (t2 : inB f.epoch 0 1073741824 = true) (t3 : inB f.cmd 0 255 = true) (t4 : inB f.arg 0 65535 = true) (hk : 0 ≤ f.kind ∧ f.kind ≤ 6) : Calls Tryz.prog 89 #[.agg (fca f)] w fun e w' => e = .returned (.bool (decide (bareF f = f))) ∧ Below w.heap.size w w' := by
 have T0 := aq_ t0
 have T1 := aq_ t1
 have T2 := aq_ t2
 have T3 := aq_ t3
 have T4 := aq_ t4
 clear t0 t1 t2 t3 t4
 have HK := aq_ hk
 clear hk
 have heq : ∀ W : World, (binOp .eql 31 (.agg (fca (bareF f))) (.agg (fca f))).run Tryz.prog W = .ok (.bool (decide (bareF f = f))) W := fun W => eql_frm W _ _
 go_enter Tryz.func89, Tryz.ntmps89
 go_upto_region 2 with (fail)
 have X1 := aq_ (show ((w.alloc (.cells (fca f) 31)).drew).heap[w.heap.size]? = some (.cells (fca f) 31 (0, 0)) from blk_drew (blk_new w _))
 have HB1 := aq_ (show Below w.heap.size w ((w.alloc (.cells (fca f) 31)).drew) from below_drew (below_alloc (Below.refl _ _) _))
 refine start_ (n := 34) (S := fun w' => w'.cell? ⟨w.heap.size, 0, none⟩ = some (.int .i64 f.kind) ∧ w'.cell? ⟨w.heap.size, 1, none⟩ = some (.int .i64 f.user) ∧ w'.cell? ⟨w.heap.size, 4, none⟩ = some (.int .i64 f.epoch) ∧ w'.cell? ⟨w.heap.size, 6, none⟩ = some (.int .i64 f.cmd) ∧ w'.cell? ⟨w.heap.size, 7, none⟩ = some (.int .i64 f.arg) ∧ w'.heap[w.heap.size]? = some (.cells (fca f) 31 (0, 0)) ∧ Below w.heap.size w w') (ds := []) #[false, false, false, false, false, false, false, false, false, false, false, false, false, false, false, false, false, false, false, false, false, false, false, false, false, false, false, false, false, false, false, false, false, false] (by kernel_rfl) rfl rfl ⟨(cellsF X1.out).1, (cellsF X1.out).2.1, (cellsF X1.out).2.2.2.2.1, (cellsF X1.out).2.2.2.2.2.2.1, (cellsF X1.out).2.2.2.2.2.2.2, X1.out, HB1.out⟩ (fun hHeld => ?_)
 refine pu_ 0 (some 4) ?_ (bt_ 34 1) rfl rfl (Or.inl ⟨by rfl, ?_⟩) ?_ ?_ ?_;rotate_left;(intro w';go_simp;with_reducible rfl);rotate_left;(simp only [pt_];rfl)
 refine ta_ 1 (some 5) ?_ (bt_ 34 3) rfl rfl (Or.inl ⟨by rfl, ?_⟩) hHeld ?_ ?_ ?_;rotate_left;(rintro w' ⟨s0, s1, s2, s3, s4, s5, s6⟩;go_simp;with_reducible rfl);rotate_left;(simp only [pt_];rfl)
 refine one_ (i := 2) (N := some 6) (bt_ 34 7) rfl rfl (by kernel_rfl) (by decide) (fun K hK => ?_)
 refine goes_ Tryz.func107 (by kernel_rfl) rfl #[.int .i64 f.kind] (by rfl) rfl rfl (by simp only [List.map_toArray, List.map_cons, List.map_nil]; rfl) ?_
 with_reducible refine (kind_any f.kind _).mono ?_
 rintro e w_ ⟨he_, rfl⟩
 rw [T0.out] at he_
 subst he_
 refine ⟨_, rfl, ?_⟩
 refine hK.out _ _ ⟨(cellsF X1.out).1, (cellsF X1.out).2.1, (cellsF X1.out).2.2.2.2.1, (cellsF X1.out).2.2.2.2.2.2.1, (cellsF X1.out).2.2.2.2.2.2.2, X1.out, HB1.out⟩ (fun hHeld => ?_)
 clear hK K
 refine norm_ (a' := ?_) ?_ ?_
 rotate_left
 ·show Act.put _ (some 6) _ = _
  simp only [pt_]
  rfl
 refine pu_ 3 (some 7) ?_ (bt_ 34 15) rfl rfl (Or.inl ⟨by rfl, ?_⟩) ?_ ?_ ?_;rotate_left;(intro w';go_simp;with_reducible rfl);rotate_left;(simp only [pt_];rfl)
 refine pu_ 4 (some 8) ?_ (bt_ 34 31) rfl rfl (Or.inl ⟨by rfl, ?_⟩) ?_ ?_ ?_;rotate_left;(intro w';go_simp;with_reducible rfl);rotate_left;(simp only [pt_];rfl)
 refine pu_ 5 (some 9) ?_ (bt_ 34 63) rfl rfl (Or.inl ⟨by rfl, ?_⟩) ?_ ?_ ?_;rotate_left;(intro w';go_simp;with_reducible rfl);rotate_left;(simp only [pt_];rfl)
 refine ta_ 6 (some 10) ?_ (bt_ 34 127) rfl rfl (Or.inl ⟨by rfl, ?_⟩) hHeld ?_ ?_ ?_;rotate_left;(rintro w' ⟨s0, s1, s2, s3, s4, s5, s6⟩;go_simp;with_reducible rfl);rotate_left;(simp only [pt_];rfl)
 refine one_ (i := 7) (N := some 11) (bt_ 34 255) rfl rfl (by kernel_rfl) (by decide) (fun K hK => ?_)
 refine goesv_ Tryz.func106 (by kernel_rfl) rfl #[.int .i64 f.user, .int .i64 255] (by rfl) rfl rfl rfl (by simp only [List.map_toArray, List.map_cons, List.map_nil]; rfl) ?_
 with_reducible refine (pin_any f.user 255 _).mono ?_
 rintro e w_ ⟨he_, rfl⟩
 rw [T1.out] at he_
 subst he_
 refine ⟨_, rfl, ?_⟩
 refine hK.out _ _ ⟨(cellsF X1.out).1, (cellsF X1.out).2.1, (cellsF X1.out).2.2.2.2.1, (cellsF X1.out).2.2.2.2.2.2.1, (cellsF X1.out).2.2.2.2.2.2.2, X1.out, HB1.out⟩ (fun hHeld => ?_)
 clear hK K
 refine norm_ (a' := ?_) ?_ ?_
 rotate_left
 ·show Act.put _ (some 11) _ = _
  simp only [pt_]
  rfl
 refine pu_ 8 (some 12) ?_ (bt_ 34 511) rfl rfl (Or.inl ⟨by rfl, ?_⟩) ?_ ?_ ?_;rotate_left;(intro w';go_simp;with_reducible rfl);rotate_left;(simp only [pt_];rfl)
 refine pu_ 9 (some 13) ?_ (bt_ 34 1023) rfl rfl (Or.inl ⟨by rfl, ?_⟩) ?_ ?_ ?_;rotate_left;(intro w';go_simp;with_reducible rfl);rotate_left;(simp only [pt_];rfl)
 refine pu_ 10 (some 14) ?_ (bt_ 34 2047) rfl rfl (Or.inl ⟨by rfl, ?_⟩) ?_ ?_ ?_;rotate_left;(intro w';go_simp;with_reducible rfl);rotate_left;(simp only [pt_];rfl)
 refine pu_ 11 (some 15) ?_ (bt_ 34 4095) rfl rfl (Or.inl ⟨by rfl, ?_⟩) ?_ ?_ ?_;rotate_left;(intro w';go_simp;with_reducible rfl);rotate_left;(simp only [pt_];rfl)
 refine ta_ 12 (some 16) ?_ (bt_ 34 8191) rfl rfl (Or.inl ⟨by rfl, ?_⟩) hHeld ?_ ?_ ?_;rotate_left;(rintro w' ⟨s0, s1, s2, s3, s4, s5, s6⟩;go_simp;with_reducible rfl);rotate_left;(simp only [pt_];rfl)
 refine one_ (i := 13) (N := some 17) (bt_ 34 16383) rfl rfl (by kernel_rfl) (by decide) (fun K hK => ?_)
 refine goesv_ Tryz.func106 (by kernel_rfl) rfl #[.int .i64 f.epoch, .int .i64 1073741824] (by rfl) rfl rfl rfl (by simp only [List.map_toArray, List.map_cons, List.map_nil]; rfl) ?_
 with_reducible refine (pin_any f.epoch 1073741824 _).mono ?_
 rintro e w_ ⟨he_, rfl⟩
 rw [T2.out] at he_
 subst he_
 refine ⟨_, rfl, ?_⟩
 refine hK.out _ _ ⟨(cellsF X1.out).1, (cellsF X1.out).2.1, (cellsF X1.out).2.2.2.2.1, (cellsF X1.out).2.2.2.2.2.2.1, (cellsF X1.out).2.2.2.2.2.2.2, X1.out, HB1.out⟩ (fun hHeld => ?_)
 clear hK K
 refine norm_ (a' := ?_) ?_ ?_
 rotate_left
 ·show Act.put _ (some 17) _ = _
  simp only [pt_]
  rfl
 refine pu_ 14 (some 18) ?_ (bt_ 34 32767) rfl rfl (Or.inl ⟨by rfl, ?_⟩) ?_ ?_ ?_;rotate_left;(intro w';go_simp;with_reducible rfl);rotate_left;(simp only [pt_];rfl)
 refine pu_ 15 (some 19) ?_ (bt_ 34 65535) rfl rfl (Or.inl ⟨by rfl, ?_⟩) ?_ ?_ ?_;rotate_left;(intro w';go_simp;with_reducible rfl);rotate_left;(simp only [pt_];rfl)
 refine pu_ 16 (some 20) ?_ (bt_ 34 131071) rfl rfl (Or.inl ⟨by rfl, ?_⟩) ?_ ?_ ?_;rotate_left;(intro w';go_simp;with_reducible rfl);rotate_left;(simp only [pt_];rfl)
 refine pu_ 17 (some 21) ?_ (bt_ 34 262143) rfl rfl (Or.inl ⟨by rfl, ?_⟩) ?_ ?_ ?_;rotate_left;(intro w';go_simp;with_reducible rfl);rotate_left;(simp only [pt_];rfl)
 refine ta_ 18 (some 22) ?_ (bt_ 34 524287) rfl rfl (Or.inl ⟨by rfl, ?_⟩) hHeld ?_ ?_ ?_;rotate_left;(rintro w' ⟨s0, s1, s2, s3, s4, s5, s6⟩;go_simp;with_reducible rfl);rotate_left;(simp only [pt_];rfl)
 refine one_ (i := 19) (N := some 23) (bt_ 34 1048575) rfl rfl (by kernel_rfl) (by decide) (fun K hK => ?_)
 refine goesv_ Tryz.func106 (by kernel_rfl) rfl #[.int .i64 f.cmd, .int .i64 255] (by rfl) rfl rfl rfl (by simp only [List.map_toArray, List.map_cons, List.map_nil]; rfl) ?_
 with_reducible refine (pin_any f.cmd 255 _).mono ?_
 rintro e w_ ⟨he_, rfl⟩
 rw [T3.out] at he_
 subst he_
 refine ⟨_, rfl, ?_⟩
 refine hK.out _ _ ⟨(cellsF X1.out).1, (cellsF X1.out).2.1, (cellsF X1.out).2.2.2.2.1, (cellsF X1.out).2.2.2.2.2.2.1, (cellsF X1.out).2.2.2.2.2.2.2, X1.out, HB1.out⟩ (fun hHeld => ?_)
 clear hK K
 refine norm_ (a' := ?_) ?_ ?_
 rotate_left
 ·show Act.put _ (some 23) _ = _
  simp only [pt_]
  rfl
 refine pu_ 20 (some 24) ?_ (bt_ 34 2097151) rfl rfl (Or.inl ⟨by rfl, ?_⟩) ?_ ?_ ?_;rotate_left;(intro w';go_simp;with_reducible rfl);rotate_left;(simp only [pt_];rfl)
 refine pu_ 21 (some 25) ?_ (bt_ 34 4194303) rfl rfl (Or.inl ⟨by rfl, ?_⟩) ?_ ?_ ?_;rotate_left;(intro w';go_simp;with_reducible rfl);rotate_left;(simp only [pt_];rfl)
 refine pu_ 22 (some 26) ?_ (bt_ 34 8388607) rfl rfl (Or.inl ⟨by rfl, ?_⟩) ?_ ?_ ?_;rotate_left;(intro w';go_simp;with_reducible rfl);rotate_left;(simp only [pt_];rfl)
 refine pu_ 23 (some 27) ?_ (bt_ 34 16777215) rfl rfl (Or.inl ⟨by rfl, ?_⟩) ?_ ?_ ?_;rotate_left;(intro w';go_simp;with_reducible rfl);rotate_left;(simp only [pt_];rfl)
 refine ta_ 24 (some 28) ?_ (bt_ 34 33554431) rfl rfl (Or.inl ⟨by rfl, ?_⟩) hHeld ?_ ?_ ?_;rotate_left;(rintro w' ⟨s0, s1, s2, s3, s4, s5, s6⟩;go_simp;with_reducible rfl);rotate_left;(simp only [pt_];rfl)
 refine one_ (i := 25) (N := some 29) (bt_ 34 67108863) rfl rfl (by kernel_rfl) (by decide) (fun K hK => ?_)
 refine goesv_ Tryz.func106 (by kernel_rfl) rfl #[.int .i64 f.arg, .int .i64 65535] (by rfl) rfl rfl rfl (by simp only [List.map_toArray, List.map_cons, List.map_nil]; rfl) ?_
 with_reducible refine (pin_any f.arg 65535 _).mono ?_
 rintro e w_ ⟨he_, rfl⟩
 rw [T4.out] at he_
 subst he_
 refine ⟨_, rfl, ?_⟩
 refine hK.out _ _ ⟨(cellsF X1.out).1, (cellsF X1.out).2.1, (cellsF X1.out).2.2.2.2.1, (cellsF X1.out).2.2.2.2.2.2.1, (cellsF X1.out).2.2.2.2.2.2.2, X1.out, HB1.out⟩ (fun hHeld => ?_)
 clear hK K
 refine norm_ (a' := ?_) ?_ ?_
 rotate_left
 ·show Act.put _ (some 29) _ = _
  simp only [pt_]
  rfl
 refine pu_ 26 (some 30) ?_ (bt_ 34 134217727) rfl rfl (Or.inl ⟨by rfl, ?_⟩) ?_ ?_ ?_;rotate_left;(intro w';go_simp;with_reducible rfl);rotate_left;(simp only [pt_];rfl)
 refine pu_ 27 (some 31) ?_ (bt_ 34 268435455) rfl rfl (Or.inl ⟨by rfl, ?_⟩) ?_ ?_ ?_;rotate_left;(intro w';go_simp;with_reducible rfl);rotate_left;(simp only [pt_];rfl)
 refine ta_ 28 (some 32) ?_ (bt_ 34 536870911) rfl rfl (Or.inl ⟨by rfl, ?_⟩) hHeld ?_ ?_ ?_
 rotate_left
 ·rintro w' ⟨s0, s1, s2, s3, s4, s5, s6⟩
  rw [exec_loadF (.tmp 1) (by rfl) (by rfl) (cells_boxF s5)]
 rotate_left
 ·simp only [pt_]
  rfl
 refine ta_ 30 (some 34) ?_ (bt_ 34 1610612735) rfl rfl (Or.inl ⟨by rfl, ?_⟩) hHeld ?_ ?_ ?_
 rotate_left
 ·rintro w' ⟨s0, s1, s2, s3, s4, s5, s6⟩
  rw [exec_loadF (.tmp 1) (by rfl) (by rfl) (cells_boxF s5)]
 rotate_left
 ·simp only [pt_]
  rfl
 refine one_ (i := 29) (N := some 33) (bt_ 34 2147483647) rfl rfl (by kernel_rfl) (by decide) (fun K hK => ?_)
 refine goes_ Tryz.func108 (by kernel_rfl) rfl #[.agg (fca f)] (by rfl) rfl rfl (by simp only [List.map_toArray, List.map_cons, List.map_nil]; rfl) ?_
 with_reducible refine (bare_any f _ HK.out.1 HK.out.2).mono ?_
 rintro e w_ ⟨rfl, hb_⟩
 refine ⟨_, rfl, ?_⟩
 have X1 := aq_ (blk_below X1.out hb_)
 have HB1 := aq_ (below_step HB1.out hb_)
 clear hb_
 refine hK.out _ _ ⟨(cellsF X1.out).1, (cellsF X1.out).2.1, (cellsF X1.out).2.2.2.2.1, (cellsF X1.out).2.2.2.2.2.2.1, (cellsF X1.out).2.2.2.2.2.2.2, X1.out, HB1.out⟩ (fun hHeld => ?_)
 clear hK K
 refine norm_ (a' := ?_) ?_ ?_
 rotate_left
 ·show Act.put _ (some 33) _ = _
  simp only [pt_]
  rfl
 refine pu_ 31 (some 35) ?_ (bt_ 34 4294967295) rfl rfl (Or.inl ⟨by rfl, ?_⟩) ?_ ?_ ?_;rotate_left;(intro w';go_simp;with_reducible rfl);rotate_left;(simp only [pt_];rfl)
 refine pu_ 32 (some 36) ?_ (bt_ 34 8589934591) rfl rfl (Or.inl ⟨by rfl, ?_⟩) ?_ ?_ ?_;rotate_left;(intro w';go_simp;with_reducible rfl);rotate_left;(simp only [pt_];rfl)
 refine pu_ 33 (some 2) ?_ (bt_ 34 17179869183) rfl rfl (Or.inl ⟨by rfl, ?_⟩) ?_ ?_ ?_;rotate_left;(intro w';go_simp;with_reducible rfl);rotate_left;(simp only [pt_];rfl)
 refine done_ (by kernel_rfl) ?_
 have HB := aq_ hHeld.2.2.2.2.2.2
 go_wp2
 go_ret
 exact ⟨rfl, HB.out⟩
theorem plain_any (f : Frm) (w : World) : Calls Tryz.prog 89 #[.agg (fca f)] w fun e w' => e = .returned (.bool (plainF f)) ∧ Below w.heap.size w w' := by
 unfold plainF
 cases t0 : kindB f.kind
 ·exact plain_0 f w t0
 cases t1 : inB f.user 0 255
 ·exact plain_1 f w t0 t1
 cases t2 : inB f.epoch 0 1073741824
 ·exact plain_2 f w t0 t1 t2
 cases t3 : inB f.cmd 0 255
 ·exact plain_3 f w t0 t1 t2 t3
 cases t4 : inB f.arg 0 65535
 ·exact plain_4 f w t0 t1 t2 t3 t4
 have hk : 0 ≤ f.kind ∧ f.kind ≤ 6 := by
  simp [kindB] at t0
  omega
 exact plain_5 f w t0 t1 t2 t3 t4 hk
end Go.Proofs.YtdinphnljokigaaGreat.P
end
