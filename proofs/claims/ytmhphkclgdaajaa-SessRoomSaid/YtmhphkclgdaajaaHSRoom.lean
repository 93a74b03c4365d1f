/- The law SessRoom. Printed by genlaw.py. -/
import Derived.Test.YtmhphkclgdaajaaHSStays
namespace Go.Proofs.Ytmhphkclgdaajaa.P
open Go.RowKit Go.Lib Go.Proofs.YtmhphkclgdaajaaW.PrintWords Go.Proofs.YtmhphkclgdaajaaW.PrintLast Go.Proofs.YtmhphkclgdaajaaW.PrintMore
set_option linter.unusedVariables false
set_option linter.unusedSimpArgs false
theorem row_one (W : World) (x : Ses) : kS.C (W.alloc (.cells (sca x) 35)) (some ⟨W.heap.size, 0, none⟩) 1 [x] := by
  refine ⟨rfl, by decide, fun _ => ⟨⟨W.heap.size, 0, none⟩, rfl, fun j p hp => ?_⟩⟩
  have hj : j = 0 := by
    have := (List.getElem?_eq_some_iff.1 hp).1
    simp at this
    exact this
  subst hj
  have hp : x = p := by simpa using hp
  subst hp
  refine ⟨scl x, scl_len x, rfl, fun i u hu => ?_⟩
  have h := cells_box (blk_new W (.cells (sca x) 35)) i u hu
  simpa using h
/-- How many are late. -/
def lateN (l : List Ses) (idle now : Int) : Nat := (l.filter (fun y => lateB y idle now)).length
theorem lateN_yes {l : List Ses} {i : Nat} {y : Ses} {idle now : Int} (hy : l[i]? = some y) (h : lateB y idle now = true) : lateN (l.take (i + 1)) idle now = lateN (l.take i) idle now + 1 := by
  unfold lateN
  rw [filt_yes (p := fun y => lateB y idle now) hy h, List.length_append, List.length_singleton]
theorem lateN_no {l : List Ses} {i : Nat} {y : Ses} {idle now : Int} (hy : l[i]? = some y) (h : lateB y idle now = false) : lateN (l.take (i + 1)) idle now = lateN (l.take i) idle now := by
  unfold lateN
  rw [filt_no (p := fun y => lateB y idle now) hy h]
theorem lateN_le (l : List Ses) (idle now : Int) (i : Nat) : lateN (l.take i) idle now ≤ l.length := filt_len _ l i
theorem lateN_awake (l : List Ses) (idle now : Int) : lateN l idle now + (awakeS l idle now).length = l.length := by
  unfold lateN awakeS
  induction l with
  | nil => rfl
  | cons y l ih =>
    rw [List.filter_cons, List.filter_cons]
    cases h : lateB y idle now
    · simp only [Bool.not_false, if_true, Bool.false_eq_true, if_false, List.length_cons]; omega
    · simp only [Bool.not_true, if_true, Bool.false_eq_true, if_false, List.length_cons]; omega
set_option maxHeartbeats 4000000 in
set_option maxRecDepth 100000 in
theorem room_o1 (l : List Ses) (A : Option Addr) (c : Nat) (x : Ses) (idle now i : Int) (w : World) (hr : kS.C w A l.length l) (hc : l.length ≤ c) (hfew : decide (l.length ≤ 8) = false) :
    Calls Try.prog 5 #[.slice A l.length c, .agg (sca x), .int .i64 idle, .int .i64 now, .int .i64 i] w fun e w' => e = .returned (.bool true) ∧ Below w.heap.size w w' := by
  have HR := Aside0.mk hr
  have HC := Aside0.mk hc
  clear hr hc
  have HFEW := Aside0.mk hfew
  clear hfew
  go_enter Try.func5, Try.ntmps5
  go_wp2_with (first
    | (go_at_call 9; (with_reducible refine (awake_any _).mono ?_); rintro e w1 ⟨rfl, hb⟩; have X := Aside0.mk (blk_below (blk_new w (.cells (sca x) 35)) hb); have HB := Aside0.mk (below_step (below_box w x) hb); obtain ⟨x0, _, x2, _, x4, _, _⟩ := cellsS X.out; clear hb)
    | (go_at_call 10; (with_reducible refine (few_any l A c _).mono ?_); rintro e w1 ⟨he_, rfl⟩; rw [HFEW.out] at he_; subst he_))
  go_ret
  exact ⟨rfl, HB.out⟩
set_option maxHeartbeats 4000000 in
set_option maxRecDepth 100000 in
theorem room_o2 (l : List Ses) (A : Option Addr) (c : Nat) (x : Ses) (idle now i : Int) (w : World) (hr : kS.C w A l.length l) (hc : l.length ≤ c) (hfew : decide (l.length ≤ 8) = true) (hm : mayS l = false) :
    Calls Try.prog 5 #[.slice A l.length c, .agg (sca x), .int .i64 idle, .int .i64 now, .int .i64 i] w fun e w' => e = .returned (.bool true) ∧ Below w.heap.size w w' := by
  have HR := Aside0.mk hr
  have HC := Aside0.mk hc
  clear hr hc
  have HFEW := Aside0.mk hfew
  clear hfew
  have HM := Aside0.mk hm
  clear hm
  go_enter Try.func5, Try.ntmps5
  go_wp2_with (first
    | (go_at_call 9; (with_reducible refine (awake_any _).mono ?_); rintro e w1 ⟨rfl, hb⟩; have X := Aside0.mk (blk_below (blk_new w (.cells (sca x) 35)) hb); have HB := Aside0.mk (below_step (below_box w x) hb); obtain ⟨x0, _, x2, _, x4, _, _⟩ := cellsS X.out; clear hb)
    | (go_at_call 10; (with_reducible refine (few_any l A c _).mono ?_); rintro e w1 ⟨he_, rfl⟩; rw [HFEW.out] at he_; subst he_)
    | (go_at_call 13; (with_reducible refine (mayL_any l A c _ (Kd.C_below HR.out HB.out) HC.out).mono ?_); rintro e w1 ⟨he_, hb⟩; rw [HM.out] at he_; subst he_; have HB := Aside0.mk (below_step HB.out hb); have X := Aside0.mk (blk_below X.out hb); clear x0 x2 x4; obtain ⟨x0, _, x2, _, x4, _, _⟩ := cellsS X.out; clear hb))
  go_ret
  exact ⟨rfl, HB.out⟩
set_option maxHeartbeats 4000000 in
set_option maxRecDepth 100000 in
theorem room_o3 (l : List Ses) (A : Option Addr) (c : Nat) (x : Ses) (idle now i : Int) (w : World) (hr : kS.C w A l.length l) (hc : l.length ≤ c) (hfew : decide (l.length ≤ 8) = true) (hm : mayS l = true) (hm1 : mayS [x] = false) :
    Calls Try.prog 5 #[.slice A l.length c, .agg (sca x), .int .i64 idle, .int .i64 now, .int .i64 i] w fun e w' => e = .returned (.bool true) ∧ Below w.heap.size w w' := by
  have HR := Aside0.mk hr
  have HC := Aside0.mk hc
  clear hr hc
  have HFEW := Aside0.mk hfew
  clear hfew
  have HM := Aside0.mk hm
  have HM1 := Aside0.mk hm1
  clear hm hm1
  go_enter Try.func5, Try.ntmps5
  go_wp2_with (first
    | (go_at_call 9; (with_reducible refine (awake_any _).mono ?_); rintro e w1 ⟨rfl, hb⟩; have X := Aside0.mk (blk_below (blk_new w (.cells (sca x) 35)) hb); have HB := Aside0.mk (below_step (below_box w x) hb); obtain ⟨x0, _, x2, _, x4, _, _⟩ := cellsS X.out; clear hb)
    | (go_at_call 10; (with_reducible refine (few_any l A c _).mono ?_); rintro e w1 ⟨he_, rfl⟩; rw [HFEW.out] at he_; subst he_)
    | (go_at_call 13; (with_reducible refine (mayL_any l A c _ (Kd.C_below HR.out HB.out) HC.out).mono ?_); rintro e w1 ⟨he_, hb⟩; rw [HM.out] at he_; subst he_; have HB := Aside0.mk (below_step HB.out hb); have X := Aside0.mk (blk_below X.out hb); clear x0 x2 x4; obtain ⟨x0, _, x2, _, x4, _, _⟩ := cellsS X.out; clear hb)
    | ((with_reducible refine gate_load 35 (.tmp 6) rfl ?_); refine load_Sw (.tmp 6) rfl (by rfl) (p := ⟨w.heap.size, 0, none⟩) rfl (cells_box X.out) ?_)
    | ((with_reducible refine gate_build (.tmp 35) rfl ?_); refine gate_guard (by rfl) ?_; dsimp only; refine Kd.event_run rfl (exec_buildS (.tmp 35) rfl rfl) ?_; have HROW := Aside0.mk (row_one w1 x); have X := Aside0.mk (blk_alloc X.out (.cells (sca x) 35)); have HB := Aside0.mk (below_alloc HB.out (.cells (sca x) 35)); clear x0 x2 x4; obtain ⟨x0, _, x2, _, x4, _, _⟩ := cellsS X.out)
    | (go_at_call 13; (with_reducible refine (may_1 x _ 1 _ HROW.out (Nat.le_refl _)).mono ?_); rintro e w1 ⟨he_, hb⟩; rw [HM1.out] at he_; subst he_; have HB := Aside0.mk (below_step HB.out hb); have X := Aside0.mk (blk_below X.out hb); clear x0 x2 x4; obtain ⟨x0, _, x2, _, x4, _, _⟩ := cellsS X.out; clear hb))
  go_ret
  exact ⟨rfl, HB.out⟩
set_option maxHeartbeats 4000000 in
set_option maxRecDepth 100000 in
theorem room_o4 (l : List Ses) (A : Option Addr) (c : Nat) (x : Ses) (idle now i : Int) (w : World) (hr : kS.C w A l.length l) (hc : l.length ≤ c) (hfew : decide (l.length ≤ 8) = true) (hm : mayS l = true) (hm1 : mayS [x] = true) (hop : x.isOpen = true) :
    Calls Try.prog 5 #[.slice A l.length c, .agg (sca x), .int .i64 idle, .int .i64 now, .int .i64 i] w fun e w' => e = .returned (.bool true) ∧ Below w.heap.size w w' := by
  have HR := Aside0.mk hr
  have HC := Aside0.mk hc
  clear hr hc
  have HFEW := Aside0.mk hfew
  clear hfew
  have HM := Aside0.mk hm
  have HM1 := Aside0.mk hm1
  have HOP := Aside0.mk hop
  clear hm hm1 hop
  go_enter Try.func5, Try.ntmps5
  go_wp2_with (first
    | (go_at_call 9; (with_reducible refine (awake_any _).mono ?_); rintro e w1 ⟨rfl, hb⟩; have X := Aside0.mk (blk_below (blk_new w (.cells (sca x) 35)) hb); have HB := Aside0.mk (below_step (below_box w x) hb); obtain ⟨x0, _, x2, _, x4, _, _⟩ := cellsS X.out; rw [HOP.out] at x4; clear hb)
    | (go_at_call 10; (with_reducible refine (few_any l A c _).mono ?_); rintro e w1 ⟨he_, rfl⟩; rw [HFEW.out] at he_; subst he_)
    | (go_at_call 13; (with_reducible refine (mayL_any l A c _ (Kd.C_below HR.out HB.out) HC.out).mono ?_); rintro e w1 ⟨he_, hb⟩; rw [HM.out] at he_; subst he_; have HB := Aside0.mk (below_step HB.out hb); have X := Aside0.mk (blk_below X.out hb); clear x0 x2 x4; obtain ⟨x0, _, x2, _, x4, _, _⟩ := cellsS X.out; rw [HOP.out] at x4; clear hb)
    | ((with_reducible refine gate_load 35 (.tmp 6) rfl ?_); refine load_Sw (.tmp 6) rfl (by rfl) (p := ⟨w.heap.size, 0, none⟩) rfl (cells_box X.out) ?_)
    | ((with_reducible refine gate_build (.tmp 35) rfl ?_); refine gate_guard (by rfl) ?_; dsimp only; refine Kd.event_run rfl (exec_buildS (.tmp 35) rfl rfl) ?_; have HROW := Aside0.mk (row_one w1 x); have X := Aside0.mk (blk_alloc X.out (.cells (sca x) 35)); have HB := Aside0.mk (below_alloc HB.out (.cells (sca x) 35)); clear x0 x2 x4; obtain ⟨x0, _, x2, _, x4, _, _⟩ := cellsS X.out; rw [HOP.out] at x4)
    | (go_at_call 13; (with_reducible refine (may_1 x _ 1 _ HROW.out (Nat.le_refl _)).mono ?_); rintro e w1 ⟨he_, hb⟩; rw [HM1.out] at he_; subst he_; have HB := Aside0.mk (below_step HB.out hb); have X := Aside0.mk (blk_below X.out hb); clear x0 x2 x4; obtain ⟨x0, _, x2, _, x4, _, _⟩ := cellsS X.out; rw [HOP.out] at x4; clear hb))
  go_ret
  exact ⟨rfl, HB.out⟩
set_option maxHeartbeats 4000000 in
set_option maxRecDepth 100000 in
theorem room_o5 (l : List Ses) (A : Option Addr) (c : Nat) (x : Ses) (idle now i : Int) (w : World) (hr : kS.C w A l.length l) (hc : l.length ≤ c) (hfew : decide (l.length ≤ 8) = true) (hm : mayS l = true) (hm1 : mayS [x] = true) (hop : x.isOpen = false) (h : idle < 1) :
    Calls Try.prog 5 #[.slice A l.length c, .agg (sca x), .int .i64 idle, .int .i64 now, .int .i64 i] w fun e w' => e = .returned (.bool true) ∧ Below w.heap.size w w' := by
  have HR := Aside0.mk hr
  have HC := Aside0.mk hc
  clear hr hc
  have HFEW := Aside0.mk hfew
  clear hfew
  have HM := Aside0.mk hm
  have HM1 := Aside0.mk hm1
  have HOP := Aside0.mk hop
  clear hm hm1 hop
  go_enter Try.func5, Try.ntmps5
  go_wp2_with (first
    | (go_at_call 9; (with_reducible refine (awake_any _).mono ?_); rintro e w1 ⟨rfl, hb⟩; have X := Aside0.mk (blk_below (blk_new w (.cells (sca x) 35)) hb); have HB := Aside0.mk (below_step (below_box w x) hb); obtain ⟨x0, _, x2, _, x4, _, _⟩ := cellsS X.out; rw [HOP.out] at x4; clear hb)
    | (go_at_call 10; (with_reducible refine (few_any l A c _).mono ?_); rintro e w1 ⟨he_, rfl⟩; rw [HFEW.out] at he_; subst he_)
    | (go_at_call 13; (with_reducible refine (mayL_any l A c _ (Kd.C_below HR.out HB.out) HC.out).mono ?_); rintro e w1 ⟨he_, hb⟩; rw [HM.out] at he_; subst he_; have HB := Aside0.mk (below_step HB.out hb); have X := Aside0.mk (blk_below X.out hb); clear x0 x2 x4; obtain ⟨x0, _, x2, _, x4, _, _⟩ := cellsS X.out; rw [HOP.out] at x4; clear hb)
    | ((with_reducible refine gate_load 35 (.tmp 6) rfl ?_); refine load_Sw (.tmp 6) rfl (by rfl) (p := ⟨w.heap.size, 0, none⟩) rfl (cells_box X.out) ?_)
    | ((with_reducible refine gate_build (.tmp 35) rfl ?_); refine gate_guard (by rfl) ?_; dsimp only; refine Kd.event_run rfl (exec_buildS (.tmp 35) rfl rfl) ?_; have HROW := Aside0.mk (row_one w1 x); have X := Aside0.mk (blk_alloc X.out (.cells (sca x) 35)); have HB := Aside0.mk (below_alloc HB.out (.cells (sca x) 35)); clear x0 x2 x4; obtain ⟨x0, _, x2, _, x4, _, _⟩ := cellsS X.out; rw [HOP.out] at x4)
    | (go_at_call 13; (with_reducible refine (may_1 x _ 1 _ HROW.out (Nat.le_refl _)).mono ?_); rintro e w1 ⟨he_, hb⟩; rw [HM1.out] at he_; subst he_; have HB := Aside0.mk (below_step HB.out hb); have X := Aside0.mk (blk_below X.out hb); clear x0 x2 x4; obtain ⟨x0, _, x2, _, x4, _, _⟩ := cellsS X.out; rw [HOP.out] at x4; clear hb))
  go_ret
  exact ⟨rfl, HB.out⟩
set_option maxHeartbeats 4000000 in
set_option maxRecDepth 100000 in
theorem room_o6 (l : List Ses) (A : Option Addr) (c : Nat) (x : Ses) (idle now i : Int) (w : World) (hr : kS.C w A l.length l) (hc : l.length ≤ c) (hfew : decide (l.length ≤ 8) = true) (hm : mayS l = true) (hm1 : mayS [x] = true) (hop : x.isOpen = false) (h : 1 ≤ idle) (h2 : 1048576 < idle) :
    Calls Try.prog 5 #[.slice A l.length c, .agg (sca x), .int .i64 idle, .int .i64 now, .int .i64 i] w fun e w' => e = .returned (.bool true) ∧ Below w.heap.size w w' := by
  have HR := Aside0.mk hr
  have HC := Aside0.mk hc
  clear hr hc
  have HFEW := Aside0.mk hfew
  clear hfew
  have HM := Aside0.mk hm
  have HM1 := Aside0.mk hm1
  have HOP := Aside0.mk hop
  clear hm hm1 hop
  go_enter Try.func5, Try.ntmps5
  go_wp2_with (first
    | (go_at_call 9; (with_reducible refine (awake_any _).mono ?_); rintro e w1 ⟨rfl, hb⟩; have X := Aside0.mk (blk_below (blk_new w (.cells (sca x) 35)) hb); have HB := Aside0.mk (below_step (below_box w x) hb); obtain ⟨x0, _, x2, _, x4, _, _⟩ := cellsS X.out; rw [HOP.out] at x4; clear hb)
    | (go_at_call 10; (with_reducible refine (few_any l A c _).mono ?_); rintro e w1 ⟨he_, rfl⟩; rw [HFEW.out] at he_; subst he_)
    | (go_at_call 13; (with_reducible refine (mayL_any l A c _ (Kd.C_below HR.out HB.out) HC.out).mono ?_); rintro e w1 ⟨he_, hb⟩; rw [HM.out] at he_; subst he_; have HB := Aside0.mk (below_step HB.out hb); have X := Aside0.mk (blk_below X.out hb); clear x0 x2 x4; obtain ⟨x0, _, x2, _, x4, _, _⟩ := cellsS X.out; rw [HOP.out] at x4; clear hb)
    | ((with_reducible refine gate_load 35 (.tmp 6) rfl ?_); refine load_Sw (.tmp 6) rfl (by rfl) (p := ⟨w.heap.size, 0, none⟩) rfl (cells_box X.out) ?_)
    | ((with_reducible refine gate_build (.tmp 35) rfl ?_); refine gate_guard (by rfl) ?_; dsimp only; refine Kd.event_run rfl (exec_buildS (.tmp 35) rfl rfl) ?_; have HROW := Aside0.mk (row_one w1 x); have X := Aside0.mk (blk_alloc X.out (.cells (sca x) 35)); have HB := Aside0.mk (below_alloc HB.out (.cells (sca x) 35)); clear x0 x2 x4; obtain ⟨x0, _, x2, _, x4, _, _⟩ := cellsS X.out; rw [HOP.out] at x4)
    | (go_at_call 13; (with_reducible refine (may_1 x _ 1 _ HROW.out (Nat.le_refl _)).mono ?_); rintro e w1 ⟨he_, hb⟩; rw [HM1.out] at he_; subst he_; have HB := Aside0.mk (below_step HB.out hb); have X := Aside0.mk (blk_below X.out hb); clear x0 x2 x4; obtain ⟨x0, _, x2, _, x4, _, _⟩ := cellsS X.out; rw [HOP.out] at x4; clear hb))
  go_ret
  exact ⟨rfl, HB.out⟩
set_option maxHeartbeats 4000000 in
set_option maxRecDepth 100000 in
theorem room_o7 (l : List Ses) (A : Option Addr) (c : Nat) (x : Ses) (idle now i : Int) (w : World) (hr : kS.C w A l.length l) (hc : l.length ≤ c) (hfew : decide (l.length ≤ 8) = true) (hm : mayS l = true) (hm1 : mayS [x] = true) (hop : x.isOpen = false) (h : 1 ≤ idle) (h2 : idle ≤ 1048576) (h3 : now < 0) :
    Calls Try.prog 5 #[.slice A l.length c, .agg (sca x), .int .i64 idle, .int .i64 now, .int .i64 i] w fun e w' => e = .returned (.bool true) ∧ Below w.heap.size w w' := by
  have HR := Aside0.mk hr
  have HC := Aside0.mk hc
  clear hr hc
  have HFEW := Aside0.mk hfew
  clear hfew
  have HM := Aside0.mk hm
  have HM1 := Aside0.mk hm1
  have HOP := Aside0.mk hop
  clear hm hm1 hop
  go_enter Try.func5, Try.ntmps5
  go_wp2_with (first
    | (go_at_call 9; (with_reducible refine (awake_any _).mono ?_); rintro e w1 ⟨rfl, hb⟩; have X := Aside0.mk (blk_below (blk_new w (.cells (sca x) 35)) hb); have HB := Aside0.mk (below_step (below_box w x) hb); obtain ⟨x0, _, x2, _, x4, _, _⟩ := cellsS X.out; rw [HOP.out] at x4; clear hb)
    | (go_at_call 10; (with_reducible refine (few_any l A c _).mono ?_); rintro e w1 ⟨he_, rfl⟩; rw [HFEW.out] at he_; subst he_)
    | (go_at_call 13; (with_reducible refine (mayL_any l A c _ (Kd.C_below HR.out HB.out) HC.out).mono ?_); rintro e w1 ⟨he_, hb⟩; rw [HM.out] at he_; subst he_; have HB := Aside0.mk (below_step HB.out hb); have X := Aside0.mk (blk_below X.out hb); clear x0 x2 x4; obtain ⟨x0, _, x2, _, x4, _, _⟩ := cellsS X.out; rw [HOP.out] at x4; clear hb)
    | ((with_reducible refine gate_load 35 (.tmp 6) rfl ?_); refine load_Sw (.tmp 6) rfl (by rfl) (p := ⟨w.heap.size, 0, none⟩) rfl (cells_box X.out) ?_)
    | ((with_reducible refine gate_build (.tmp 35) rfl ?_); refine gate_guard (by rfl) ?_; dsimp only; refine Kd.event_run rfl (exec_buildS (.tmp 35) rfl rfl) ?_; have HROW := Aside0.mk (row_one w1 x); have X := Aside0.mk (blk_alloc X.out (.cells (sca x) 35)); have HB := Aside0.mk (below_alloc HB.out (.cells (sca x) 35)); clear x0 x2 x4; obtain ⟨x0, _, x2, _, x4, _, _⟩ := cellsS X.out; rw [HOP.out] at x4)
    | (go_at_call 13; (with_reducible refine (may_1 x _ 1 _ HROW.out (Nat.le_refl _)).mono ?_); rintro e w1 ⟨he_, hb⟩; rw [HM1.out] at he_; subst he_; have HB := Aside0.mk (below_step HB.out hb); have X := Aside0.mk (blk_below X.out hb); clear x0 x2 x4; obtain ⟨x0, _, x2, _, x4, _, _⟩ := cellsS X.out; rw [HOP.out] at x4; clear hb))
  go_ret
  exact ⟨rfl, HB.out⟩
set_option maxHeartbeats 4000000 in
set_option maxRecDepth 100000 in
theorem room_o8 (l : List Ses) (A : Option Addr) (c : Nat) (x : Ses) (idle now i : Int) (w : World) (hr : kS.C w A l.length l) (hc : l.length ≤ c) (hfew : decide (l.length ≤ 8) = true) (hm : mayS l = true) (hm1 : mayS [x] = true) (hop : x.isOpen = false) (h : 1 ≤ idle) (h2 : idle ≤ 1048576) (h3 : 0 ≤ now) (h4 : 1073741824 < now) :
    Calls Try.prog 5 #[.slice A l.length c, .agg (sca x), .int .i64 idle, .int .i64 now, .int .i64 i] w fun e w' => e = .returned (.bool true) ∧ Below w.heap.size w w' := by
  have HR := Aside0.mk hr
  have HC := Aside0.mk hc
  clear hr hc
  have HFEW := Aside0.mk hfew
  clear hfew
  have HM := Aside0.mk hm
  have HM1 := Aside0.mk hm1
  have HOP := Aside0.mk hop
  clear hm hm1 hop
  go_enter Try.func5, Try.ntmps5
  go_wp2_with (first
    | (go_at_call 9; (with_reducible refine (awake_any _).mono ?_); rintro e w1 ⟨rfl, hb⟩; have X := Aside0.mk (blk_below (blk_new w (.cells (sca x) 35)) hb); have HB := Aside0.mk (below_step (below_box w x) hb); obtain ⟨x0, _, x2, _, x4, _, _⟩ := cellsS X.out; rw [HOP.out] at x4; clear hb)
    | (go_at_call 10; (with_reducible refine (few_any l A c _).mono ?_); rintro e w1 ⟨he_, rfl⟩; rw [HFEW.out] at he_; subst he_)
    | (go_at_call 13; (with_reducible refine (mayL_any l A c _ (Kd.C_below HR.out HB.out) HC.out).mono ?_); rintro e w1 ⟨he_, hb⟩; rw [HM.out] at he_; subst he_; have HB := Aside0.mk (below_step HB.out hb); have X := Aside0.mk (blk_below X.out hb); clear x0 x2 x4; obtain ⟨x0, _, x2, _, x4, _, _⟩ := cellsS X.out; rw [HOP.out] at x4; clear hb)
    | ((with_reducible refine gate_load 35 (.tmp 6) rfl ?_); refine load_Sw (.tmp 6) rfl (by rfl) (p := ⟨w.heap.size, 0, none⟩) rfl (cells_box X.out) ?_)
    | ((with_reducible refine gate_build (.tmp 35) rfl ?_); refine gate_guard (by rfl) ?_; dsimp only; refine Kd.event_run rfl (exec_buildS (.tmp 35) rfl rfl) ?_; have HROW := Aside0.mk (row_one w1 x); have X := Aside0.mk (blk_alloc X.out (.cells (sca x) 35)); have HB := Aside0.mk (below_alloc HB.out (.cells (sca x) 35)); clear x0 x2 x4; obtain ⟨x0, _, x2, _, x4, _, _⟩ := cellsS X.out; rw [HOP.out] at x4)
    | (go_at_call 13; (with_reducible refine (may_1 x _ 1 _ HROW.out (Nat.le_refl _)).mono ?_); rintro e w1 ⟨he_, hb⟩; rw [HM1.out] at he_; subst he_; have HB := Aside0.mk (below_step HB.out hb); have X := Aside0.mk (blk_below X.out hb); clear x0 x2 x4; obtain ⟨x0, _, x2, _, x4, _, _⟩ := cellsS X.out; rw [HOP.out] at x4; clear hb))
  go_ret
  exact ⟨rfl, HB.out⟩
set_option maxHeartbeats 4000000 in
set_option maxRecDepth 100000 in
theorem room_w6 (l : List Ses) (A : Option Addr) (c : Nat) (x : Ses) (idle now i : Int) (w : World) (hr : kS.C w A l.length l) (hc : l.length ≤ c) (hfew : decide (l.length ≤ 8) = true) (hm : mayS l = true) (hm1 : mayS [x] = true) (hop : x.isOpen = false) (h : 1 ≤ idle) (h2 : idle ≤ 1048576) (h3 : 0 ≤ now) (h4 : now ≤ 1073741824) (hl : l.length < 1000000) (a : List Ses) (fd : Int) (ha : beginS l x idle now = (a, 6)) (hf : findS l x.draw = fd) (h0 : 0 ≤ fd) :
    Calls Try.prog 5 #[.slice A l.length c, .agg (sca x), .int .i64 idle, .int .i64 now, .int .i64 i] w fun e w' => e = .returned (.bool true) ∧ Below w.heap.size w w' := by
  have HR := Aside0.mk hr
  have HC := Aside0.mk hc
  clear hr hc
  have HFEW := Aside0.mk hfew
  clear hfew
  have HM := Aside0.mk hm
  have HM1 := Aside0.mk hm1
  have HOP := Aside0.mk hop
  clear hm hm1 hop
  have HL := Aside0.mk hl
  have HA := Aside0.mk ha
  have HF := Aside0.mk hf
  clear hl ha hf
  go_enter Try.func5, Try.ntmps5
  go_wp2_with (first
    | (go_at_call 9; (with_reducible refine (awake_any _).mono ?_); rintro e w1 ⟨rfl, hb⟩; have X := Aside0.mk (blk_below (blk_new w (.cells (sca x) 35)) hb); have HB := Aside0.mk (below_step (below_box w x) hb); obtain ⟨x0, _, x2, _, x4, _, _⟩ := cellsS X.out; rw [HOP.out] at x4; clear hb)
    | (go_at_call 10; (with_reducible refine (few_any l A c _).mono ?_); rintro e w1 ⟨he_, rfl⟩; rw [HFEW.out] at he_; subst he_)
    | (go_at_call 13; (with_reducible refine (mayL_any l A c _ (Kd.C_below HR.out HB.out) HC.out).mono ?_); rintro e w1 ⟨he_, hb⟩; rw [HM.out] at he_; subst he_; have HB := Aside0.mk (below_step HB.out hb); have X := Aside0.mk (blk_below X.out hb); clear x0 x2 x4; obtain ⟨x0, _, x2, _, x4, _, _⟩ := cellsS X.out; rw [HOP.out] at x4; clear hb)
    | ((with_reducible refine gate_load 35 (.tmp 6) rfl ?_); refine load_Sw (.tmp 6) rfl (by rfl) (p := ⟨w.heap.size, 0, none⟩) rfl (cells_box X.out) ?_)
    | ((with_reducible refine gate_build (.tmp 35) rfl ?_); refine gate_guard (by rfl) ?_; dsimp only; refine Kd.event_run rfl (exec_buildS (.tmp 35) rfl rfl) ?_; have HROW := Aside0.mk (row_one w1 x); have X := Aside0.mk (blk_alloc X.out (.cells (sca x) 35)); have HB := Aside0.mk (below_alloc HB.out (.cells (sca x) 35)); clear x0 x2 x4; obtain ⟨x0, _, x2, _, x4, _, _⟩ := cellsS X.out; rw [HOP.out] at x4)
    | (go_at_call 13; (with_reducible refine (may_1 x _ 1 _ HROW.out (Nat.le_refl _)).mono ?_); rintro e w1 ⟨he_, hb⟩; rw [HM1.out] at he_; subst he_; have HB := Aside0.mk (below_step HB.out hb); have X := Aside0.mk (blk_below X.out hb); clear x0 x2 x4; obtain ⟨x0, _, x2, _, x4, _, _⟩ := cellsS X.out; rw [HOP.out] at x4; clear hb))
  go_loopw [13, 14] (fun v13 v14 wr => ∃ j : Nat, j ≤ l.length ∧ v13 = .int .i64 (lateN (l.take j) idle now) ∧ v14 = .int .i64 j ∧ Aside0 (wr.heap[w.heap.size]? = some (.cells (sca x) 35 (0, 0))) ∧ Aside0 (Below w.heap.size w wr)) (fun _ v14 _ => l.length - (intOf v14).toNat)
  case atStart => exact ⟨0, by omega, rfl, rfl, X, HB⟩
  case round =>
    clear X HB x0 x2 x4 HROW
    obtain ⟨j, hj, rfl, rfl, X, HB⟩ := hrel
    obtain ⟨wo, rfl⟩ : ∃ wo : World, wo = wr := ⟨_, rfl⟩
    obtain ⟨x0, _, x2, _, x4, _, _⟩ := cellsS X.out
    rw [HOP.out] at x4
    have hn1 := lateN_le l idle now j
    have hn2 : l.length ≤ 1000000 := by have := HL.out; omega
    by_cases hlt : j < l.length
    · obtain ⟨y, hy⟩ : ∃ y, l[j]? = some y := ⟨_, List.getElem?_eq_getElem hlt⟩
      obtain ⟨ad, e0, hall⟩ := all_S HR.out hlt hy
      subst e0
      have HX := Aside0.mk hall
      have HY := Aside0.mk hy
      clear hall hy
      cases hla : lateB y idle now with
      | true =>
        have HLA := Aside0.mk hla
        have HN := Aside0.mk (lateN_yes HY.out hla)
        clear hla
        generalize lateN (l.take j) idle now = n at *
        go_wp2_with (first
          | (with_reducible refine load_S (.tmp 69) rfl rfl (p := ad.add (j * 39)) rfl (HX.out _ HB.out) ?_)
          | (go_at_call 14; (with_reducible refine (late_any y idle now _).mono ?_); rintro e w1 ⟨he_, hb⟩; rw [HLA.out] at he_; subst he_; have HB := Aside0.mk (below_step HB.out hb); have X := Aside0.mk (blk_below X.out hb); clear x0 x2 x4; obtain ⟨x0, _, x2, _, x4, _, _⟩ := cellsS X.out; rw [HOP.out] at x4; clear hb))
        go_roundw
        case rel => exact ⟨j + 1, by omega, by rw [HN.out]; go_num, by go_num, X, HB⟩
        case measure => simp [intOf]; omega
      | false =>
        have HLA := Aside0.mk hla
        have HN := Aside0.mk (lateN_no HY.out hla)
        clear hla
        generalize lateN (l.take j) idle now = n at *
        go_wp2_with (first
          | (with_reducible refine load_S (.tmp 69) rfl rfl (p := ad.add (j * 39)) rfl (HX.out _ HB.out) ?_)
          | (go_at_call 14; (with_reducible refine (late_any y idle now _).mono ?_); rintro e w1 ⟨he_, hb⟩; rw [HLA.out] at he_; subst he_; have HB := Aside0.mk (below_step HB.out hb); have X := Aside0.mk (blk_below X.out hb); clear x0 x2 x4; obtain ⟨x0, _, x2, _, x4, _, _⟩ := cellsS X.out; rw [HOP.out] at x4; clear hb))
        go_roundw
        case rel => exact ⟨j + 1, by omega, by rw [HN.out], by go_num, X, HB⟩
        case measure => simp [intOf]; omega
    · obtain rfl : j = l.length := by omega
      rw [List.take_length] at hn1
      simp only [List.take_length]
      have hn3 := lateN_awake l idle now
      obtain ⟨n, hn⟩ : ∃ n, lateN l idle now = n := ⟨_, rfl⟩
      rw [hn] at hn1 hn3
      simp only [hn]
      clear hn
      have hd := decide_eq_true h0
      clear hn3
      go_wp2_with (first
        | (with_reducible refine load_S (.tmp 6) rfl rfl (p := ⟨w.heap.size, 0, none⟩) rfl (cells_box X.out) ?_)
        | (go_at_call 15; (with_reducible refine (begin_any x idle now l A c _ (Kd.C_below HR.out HB.out) HC.out HL.out a 6 HA.out).mono ?_); rintro e w1 ⟨v, rfl, ho, hb⟩; obtain ⟨A1, c1, rfl, hc1, hC1⟩ := ho; have HC1 := Aside0.mk hc1; have H1 := Aside0.mk hC1; have HB := Aside0.mk (below_step HB.out hb); have X := Aside0.mk (blk_below X.out hb); clear x0 x2 x4; obtain ⟨x0, _, x2, _, x4, _, _⟩ := cellsS X.out; rw [HOP.out] at x4; clear hb hc1 hC1)
        | (go_at_call 12; (with_reducible refine (find_any x.draw l A c _ (Kd.C_below HR.out HB.out)).mono ?_); rintro e w1 ⟨he_, hb⟩; rw [HF.out] at he_; subst he_; have H1 := Aside0.mk (Kd.C_below H1.out hb); have HB := Aside0.mk (below_step HB.out hb); have X := Aside0.mk (blk_below X.out hb); clear x0 x2 x4; obtain ⟨x0, _, x2, _, x4, _, _⟩ := cellsS X.out; rw [HOP.out] at x4; clear hb))
      all_goals (go_ret; exact ⟨rfl, HB.out⟩)
set_option maxHeartbeats 4000000 in
set_option maxRecDepth 100000 in
theorem room_w12 (l : List Ses) (A : Option Addr) (c : Nat) (x : Ses) (idle now i : Int) (w : World) (hr : kS.C w A l.length l) (hc : l.length ≤ c) (hfew : decide (l.length ≤ 8) = true) (hm : mayS l = true) (hm1 : mayS [x] = true) (hop : x.isOpen = false) (h : 1 ≤ idle) (h2 : idle ≤ 1048576) (h3 : 0 ≤ now) (h4 : now ≤ 1073741824) (hl : l.length < 1000000) (a : List Ses) (fd : Int) (ha : beginS l x idle now = (a, 12)) (hf : findS l x.draw = fd) (h0 : fd < 0) (hl4 : l.length = 4) (haw : (awakeS l idle now).length = 4) :
    Calls Try.prog 5 #[.slice A l.length c, .agg (sca x), .int .i64 idle, .int .i64 now, .int .i64 i] w fun e w' => e = .returned (.bool true) ∧ Below w.heap.size w w' := by
  have HR := Aside0.mk hr
  have HC := Aside0.mk hc
  clear hr hc
  have HFEW := Aside0.mk hfew
  clear hfew
  have HM := Aside0.mk hm
  have HM1 := Aside0.mk hm1
  have HOP := Aside0.mk hop
  clear hm hm1 hop
  have HL := Aside0.mk hl
  have HA := Aside0.mk ha
  have HF := Aside0.mk hf
  clear hl ha hf
  have HL4 := Aside0.mk hl4
  have HAW := Aside0.mk haw
  clear hl4 haw
  go_enter Try.func5, Try.ntmps5
  go_wp2_with (first
    | (go_at_call 9; (with_reducible refine (awake_any _).mono ?_); rintro e w1 ⟨rfl, hb⟩; have X := Aside0.mk (blk_below (blk_new w (.cells (sca x) 35)) hb); have HB := Aside0.mk (below_step (below_box w x) hb); obtain ⟨x0, _, x2, _, x4, _, _⟩ := cellsS X.out; rw [HOP.out] at x4; clear hb)
    | (go_at_call 10; (with_reducible refine (few_any l A c _).mono ?_); rintro e w1 ⟨he_, rfl⟩; rw [HFEW.out] at he_; subst he_)
    | (go_at_call 13; (with_reducible refine (mayL_any l A c _ (Kd.C_below HR.out HB.out) HC.out).mono ?_); rintro e w1 ⟨he_, hb⟩; rw [HM.out] at he_; subst he_; have HB := Aside0.mk (below_step HB.out hb); have X := Aside0.mk (blk_below X.out hb); clear x0 x2 x4; obtain ⟨x0, _, x2, _, x4, _, _⟩ := cellsS X.out; rw [HOP.out] at x4; clear hb)
    | ((with_reducible refine gate_load 35 (.tmp 6) rfl ?_); refine load_Sw (.tmp 6) rfl (by rfl) (p := ⟨w.heap.size, 0, none⟩) rfl (cells_box X.out) ?_)
    | ((with_reducible refine gate_build (.tmp 35) rfl ?_); refine gate_guard (by rfl) ?_; dsimp only; refine Kd.event_run rfl (exec_buildS (.tmp 35) rfl rfl) ?_; have HROW := Aside0.mk (row_one w1 x); have X := Aside0.mk (blk_alloc X.out (.cells (sca x) 35)); have HB := Aside0.mk (below_alloc HB.out (.cells (sca x) 35)); clear x0 x2 x4; obtain ⟨x0, _, x2, _, x4, _, _⟩ := cellsS X.out; rw [HOP.out] at x4)
    | (go_at_call 13; (with_reducible refine (may_1 x _ 1 _ HROW.out (Nat.le_refl _)).mono ?_); rintro e w1 ⟨he_, hb⟩; rw [HM1.out] at he_; subst he_; have HB := Aside0.mk (below_step HB.out hb); have X := Aside0.mk (blk_below X.out hb); clear x0 x2 x4; obtain ⟨x0, _, x2, _, x4, _, _⟩ := cellsS X.out; rw [HOP.out] at x4; clear hb))
  go_loopw [13, 14] (fun v13 v14 wr => ∃ j : Nat, j ≤ l.length ∧ v13 = .int .i64 (lateN (l.take j) idle now) ∧ v14 = .int .i64 j ∧ Aside0 (wr.heap[w.heap.size]? = some (.cells (sca x) 35 (0, 0))) ∧ Aside0 (Below w.heap.size w wr)) (fun _ v14 _ => l.length - (intOf v14).toNat)
  case atStart => exact ⟨0, by omega, rfl, rfl, X, HB⟩
  case round =>
    clear X HB x0 x2 x4 HROW
    obtain ⟨j, hj, rfl, rfl, X, HB⟩ := hrel
    obtain ⟨wo, rfl⟩ : ∃ wo : World, wo = wr := ⟨_, rfl⟩
    obtain ⟨x0, _, x2, _, x4, _, _⟩ := cellsS X.out
    rw [HOP.out] at x4
    have hn1 := lateN_le l idle now j
    have hn2 : l.length ≤ 1000000 := by have := HL.out; omega
    by_cases hlt : j < l.length
    · obtain ⟨y, hy⟩ : ∃ y, l[j]? = some y := ⟨_, List.getElem?_eq_getElem hlt⟩
      obtain ⟨ad, e0, hall⟩ := all_S HR.out hlt hy
      subst e0
      have HX := Aside0.mk hall
      have HY := Aside0.mk hy
      clear hall hy
      cases hla : lateB y idle now with
      | true =>
        have HLA := Aside0.mk hla
        have HN := Aside0.mk (lateN_yes HY.out hla)
        clear hla
        generalize lateN (l.take j) idle now = n at *
        go_wp2_with (first
          | (with_reducible refine load_S (.tmp 69) rfl rfl (p := ad.add (j * 39)) rfl (HX.out _ HB.out) ?_)
          | (go_at_call 14; (with_reducible refine (late_any y idle now _).mono ?_); rintro e w1 ⟨he_, hb⟩; rw [HLA.out] at he_; subst he_; have HB := Aside0.mk (below_step HB.out hb); have X := Aside0.mk (blk_below X.out hb); clear x0 x2 x4; obtain ⟨x0, _, x2, _, x4, _, _⟩ := cellsS X.out; rw [HOP.out] at x4; clear hb))
        go_roundw
        case rel => exact ⟨j + 1, by omega, by rw [HN.out]; go_num, by go_num, X, HB⟩
        case measure => simp [intOf]; omega
      | false =>
        have HLA := Aside0.mk hla
        have HN := Aside0.mk (lateN_no HY.out hla)
        clear hla
        generalize lateN (l.take j) idle now = n at *
        go_wp2_with (first
          | (with_reducible refine load_S (.tmp 69) rfl rfl (p := ad.add (j * 39)) rfl (HX.out _ HB.out) ?_)
          | (go_at_call 14; (with_reducible refine (late_any y idle now _).mono ?_); rintro e w1 ⟨he_, hb⟩; rw [HLA.out] at he_; subst he_; have HB := Aside0.mk (below_step HB.out hb); have X := Aside0.mk (blk_below X.out hb); clear x0 x2 x4; obtain ⟨x0, _, x2, _, x4, _, _⟩ := cellsS X.out; rw [HOP.out] at x4; clear hb))
        go_roundw
        case rel => exact ⟨j + 1, by omega, by rw [HN.out], by go_num, X, HB⟩
        case measure => simp [intOf]; omega
    · obtain rfl : j = l.length := by omega
      rw [List.take_length] at hn1
      simp only [List.take_length]
      have hn3 := lateN_awake l idle now
      obtain ⟨n, hn⟩ : ∃ n, lateN l idle now = n := ⟨_, rfl⟩
      rw [hn] at hn1 hn3
      simp only [hn]
      clear hn
      have hd : decide (0 ≤ fd) = false := decide_eq_false (by omega)
      have hd4 : ((l.length : Int) == 4) = true := by have h5 := HL4.out; simp [h5]
      have hdn : ((n : Int) == 0) = true := by have h5 := HL4.out; have h6 := HAW.out; simp; omega
      clear hn3
      go_wp2_with (first
        | (with_reducible refine load_S (.tmp 6) rfl rfl (p := ⟨w.heap.size, 0, none⟩) rfl (cells_box X.out) ?_)
        | (go_at_call 15; (with_reducible refine (begin_any x idle now l A c _ (Kd.C_below HR.out HB.out) HC.out HL.out a 12 HA.out).mono ?_); rintro e w1 ⟨v, rfl, ho, hb⟩; obtain ⟨A1, c1, rfl, hc1, hC1⟩ := ho; have HC1 := Aside0.mk hc1; have H1 := Aside0.mk hC1; have HB := Aside0.mk (below_step HB.out hb); have X := Aside0.mk (blk_below X.out hb); clear x0 x2 x4; obtain ⟨x0, _, x2, _, x4, _, _⟩ := cellsS X.out; rw [HOP.out] at x4; clear hb hc1 hC1)
        | (go_at_call 12; (with_reducible refine (find_any x.draw l A c _ (Kd.C_below HR.out HB.out)).mono ?_); rintro e w1 ⟨he_, hb⟩; rw [HF.out] at he_; subst he_; have H1 := Aside0.mk (Kd.C_below H1.out hb); have HB := Aside0.mk (below_step HB.out hb); have X := Aside0.mk (blk_below X.out hb); clear x0 x2 x4; obtain ⟨x0, _, x2, _, x4, _, _⟩ := cellsS X.out; rw [HOP.out] at x4; clear hb))
      go_ret
      exact ⟨rfl, HB.out⟩
set_option maxHeartbeats 4000000 in
set_option maxRecDepth 100000 in
theorem room_z1 (l : List Ses) (A : Option Addr) (c : Nat) (x : Ses) (idle now i : Int) (w : World) (hr : kS.C w A l.length l) (hc : l.length ≤ c) (hfew : decide (l.length ≤ 8) = true) (hm : mayS l = true) (hm1 : mayS [x] = true) (hop : x.isOpen = false) (h : 1 ≤ idle) (h2 : idle ≤ 1048576) (h3 : 0 ≤ now) (h4 : now ≤ 1073741824) (hl : l.length < 1000000) (a : List Ses) (fd : Int) (ha : beginS l x idle now = (a, 0)) (hf : findS l x.draw = fd) (h0 : fd < 0) (m : Nat) (hla1 : a.length = m + 1) (hm2 : (m : Int) ≤ 1000000) (ham : a[m]? = some { x with last := now }) (hf2 : findS a x.draw = m) (q4 : Bool) (hq4 : ((l.length : Int) == 4) = q4) (hnf : q4 = true → (awakeS l idle now).length ≠ 4) (hi : i < 0) :
    Calls Try.prog 5 #[.slice A l.length c, .agg (sca x), .int .i64 idle, .int .i64 now, .int .i64 i] w fun e w' => e = .returned (.bool true) ∧ Below w.heap.size w w' := by
  have HR := Aside0.mk hr
  have HC := Aside0.mk hc
  clear hr hc
  have HFEW := Aside0.mk hfew
  clear hfew
  have HM := Aside0.mk hm
  have HM1 := Aside0.mk hm1
  have HOP := Aside0.mk hop
  clear hm hm1 hop
  have HL := Aside0.mk hl
  have HA := Aside0.mk ha
  have HF := Aside0.mk hf
  clear hl ha hf
  go_enter Try.func5, Try.ntmps5
  go_wp2_with (first
    | (go_at_call 9; (with_reducible refine (awake_any _).mono ?_); rintro e w1 ⟨rfl, hb⟩; have X := Aside0.mk (blk_below (blk_new w (.cells (sca x) 35)) hb); have HB := Aside0.mk (below_step (below_box w x) hb); obtain ⟨x0, _, x2, _, x4, _, _⟩ := cellsS X.out; rw [HOP.out] at x4; clear hb)
    | (go_at_call 10; (with_reducible refine (few_any l A c _).mono ?_); rintro e w1 ⟨he_, rfl⟩; rw [HFEW.out] at he_; subst he_)
    | (go_at_call 13; (with_reducible refine (mayL_any l A c _ (Kd.C_below HR.out HB.out) HC.out).mono ?_); rintro e w1 ⟨he_, hb⟩; rw [HM.out] at he_; subst he_; have HB := Aside0.mk (below_step HB.out hb); have X := Aside0.mk (blk_below X.out hb); clear x0 x2 x4; obtain ⟨x0, _, x2, _, x4, _, _⟩ := cellsS X.out; rw [HOP.out] at x4; clear hb)
    | ((with_reducible refine gate_load 35 (.tmp 6) rfl ?_); refine load_Sw (.tmp 6) rfl (by rfl) (p := ⟨w.heap.size, 0, none⟩) rfl (cells_box X.out) ?_)
    | ((with_reducible refine gate_build (.tmp 35) rfl ?_); refine gate_guard (by rfl) ?_; dsimp only; refine Kd.event_run rfl (exec_buildS (.tmp 35) rfl rfl) ?_; have HROW := Aside0.mk (row_one w1 x); have X := Aside0.mk (blk_alloc X.out (.cells (sca x) 35)); have HB := Aside0.mk (below_alloc HB.out (.cells (sca x) 35)); clear x0 x2 x4; obtain ⟨x0, _, x2, _, x4, _, _⟩ := cellsS X.out; rw [HOP.out] at x4)
    | (go_at_call 13; (with_reducible refine (may_1 x _ 1 _ HROW.out (Nat.le_refl _)).mono ?_); rintro e w1 ⟨he_, hb⟩; rw [HM1.out] at he_; subst he_; have HB := Aside0.mk (below_step HB.out hb); have X := Aside0.mk (blk_below X.out hb); clear x0 x2 x4; obtain ⟨x0, _, x2, _, x4, _, _⟩ := cellsS X.out; rw [HOP.out] at x4; clear hb))
  go_loopw [13, 14] (fun v13 v14 wr => ∃ j : Nat, j ≤ l.length ∧ v13 = .int .i64 (lateN (l.take j) idle now) ∧ v14 = .int .i64 j ∧ Aside0 (wr.heap[w.heap.size]? = some (.cells (sca x) 35 (0, 0))) ∧ Aside0 (Below w.heap.size w wr)) (fun _ v14 _ => l.length - (intOf v14).toNat)
  case atStart => exact ⟨0, by omega, rfl, rfl, X, HB⟩
  case round =>
    clear X HB x0 x2 x4 HROW
    obtain ⟨j, hj, rfl, rfl, X, HB⟩ := hrel
    obtain ⟨wo, rfl⟩ : ∃ wo : World, wo = wr := ⟨_, rfl⟩
    obtain ⟨x0, _, x2, _, x4, _, _⟩ := cellsS X.out
    rw [HOP.out] at x4
    have hn1 := lateN_le l idle now j
    have hn2 : l.length ≤ 1000000 := by have := HL.out; omega
    by_cases hlt : j < l.length
    · obtain ⟨y, hy⟩ : ∃ y, l[j]? = some y := ⟨_, List.getElem?_eq_getElem hlt⟩
      obtain ⟨ad, e0, hall⟩ := all_S HR.out hlt hy
      subst e0
      have HX := Aside0.mk hall
      have HY := Aside0.mk hy
      clear hall hy
      cases hla : lateB y idle now with
      | true =>
        have HLA := Aside0.mk hla
        have HN := Aside0.mk (lateN_yes HY.out hla)
        clear hla
        generalize lateN (l.take j) idle now = n at *
        go_wp2_with (first
          | (with_reducible refine load_S (.tmp 69) rfl rfl (p := ad.add (j * 39)) rfl (HX.out _ HB.out) ?_)
          | (go_at_call 14; (with_reducible refine (late_any y idle now _).mono ?_); rintro e w1 ⟨he_, hb⟩; rw [HLA.out] at he_; subst he_; have HB := Aside0.mk (below_step HB.out hb); have X := Aside0.mk (blk_below X.out hb); clear x0 x2 x4; obtain ⟨x0, _, x2, _, x4, _, _⟩ := cellsS X.out; rw [HOP.out] at x4; clear hb))
        go_roundw
        case rel => exact ⟨j + 1, by omega, by rw [HN.out]; go_num, by go_num, X, HB⟩
        case measure => simp [intOf]; omega
      | false =>
        have HLA := Aside0.mk hla
        have HN := Aside0.mk (lateN_no HY.out hla)
        clear hla
        generalize lateN (l.take j) idle now = n at *
        go_wp2_with (first
          | (with_reducible refine load_S (.tmp 69) rfl rfl (p := ad.add (j * 39)) rfl (HX.out _ HB.out) ?_)
          | (go_at_call 14; (with_reducible refine (late_any y idle now _).mono ?_); rintro e w1 ⟨he_, hb⟩; rw [HLA.out] at he_; subst he_; have HB := Aside0.mk (below_step HB.out hb); have X := Aside0.mk (blk_below X.out hb); clear x0 x2 x4; obtain ⟨x0, _, x2, _, x4, _, _⟩ := cellsS X.out; rw [HOP.out] at x4; clear hb))
        go_roundw
        case rel => exact ⟨j + 1, by omega, by rw [HN.out], by go_num, X, HB⟩
        case measure => simp [intOf]; omega
    · obtain rfl : j = l.length := by omega
      rw [List.take_length] at hn1
      simp only [List.take_length]
      have hn3 := lateN_awake l idle now
      obtain ⟨n, hn⟩ : ∃ n, lateN l idle now = n := ⟨_, rfl⟩
      rw [hn] at hn1 hn3
      simp only [hn]
      clear hn
      have hd : decide (0 ≤ fd) = false := decide_eq_false (by omega)
      have HLA1 := Aside0.mk hla1
      have HAM := Aside0.mk ham
      have HF2 := Aside0.mk hf2
      have hal : (a.length : Int) - 1 = m := by omega
      have hm0 : decide ((m : Int) < 0) = false := by simp
      have hw4 : Go.RowKit.wrap64 (m : Int) = (m : Int) := by unfold Go.RowKit.wrap64; omega
      clear hla1 ham hf2
      cases q4 with
      | false =>
        clear hnf hn3
        go_wp2_with (first
          | (with_reducible refine load_S (.tmp 6) rfl rfl (p := ⟨w.heap.size, 0, none⟩) rfl (cells_box X.out) ?_)
          | (go_at_call 15; (with_reducible refine (begin_any x idle now l A c _ (Kd.C_below HR.out HB.out) HC.out HL.out a 0 HA.out).mono ?_); rintro e w1 ⟨v, rfl, ho, hb⟩; obtain ⟨A1, c1, rfl, hc1, hC1⟩ := ho; have HC1 := Aside0.mk hc1; have H1 := Aside0.mk hC1; have HB := Aside0.mk (below_step HB.out hb); have X := Aside0.mk (blk_below X.out hb); clear x0 x2 x4; obtain ⟨x0, _, x2, _, x4, _, _⟩ := cellsS X.out; rw [HOP.out] at x4; clear hb hc1 hC1)
          | (go_at_call 12; (with_reducible refine (find_any x.draw l A c _ (Kd.C_below HR.out HB.out)).mono ?_); rintro e w1 ⟨he_, hb⟩; rw [HF.out] at he_; subst he_; have H1 := Aside0.mk (Kd.C_below H1.out hb); have HB := Aside0.mk (below_step HB.out hb); have X := Aside0.mk (blk_below X.out hb); clear x0 x2 x4; obtain ⟨x0, _, x2, _, x4, _, _⟩ := cellsS X.out; rw [HOP.out] at x4; clear hb)
          | (go_at_call 12; (with_reducible refine (find_any x.draw a A1 c1 _ H1.out).mono ?_); rintro e w1 ⟨he_, hb⟩; rw [HF2.out] at he_; subst he_; have H1 := Aside0.mk (Kd.C_below H1.out hb); have HB := Aside0.mk (below_step HB.out hb); have X := Aside0.mk (blk_below X.out hb); clear x0 x2 x4; obtain ⟨x0, _, x2, _, x4, _, _⟩ := cellsS X.out; rw [HOP.out] at x4; clear hb))
        obtain ⟨aa, ea, _, y0, _, _, _, y4, _, y6⟩ := at_S H1.out m (by have := HLA1.out; omega) { x with last := now } HAM.out
        subst ea
        rw [show ({ x with last := now } : Ses).isOpen = false from HOP.out] at y4
        have hmi : (m : Int) < (a.length : Int) := by have := HLA1.out; omega
        refine start_ (n := 35) (S := fun w' => w'.cell? ⟨(aa.add (m * 39)).block, (aa.add (m * 39)).off + 36, none⟩ = some (.bool false) ∧ w'.cell? ⟨(aa.add (m * 39)).block, (aa.add (m * 39)).off + 38, none⟩ = some (.int .i64 now) ∧ w'.cell? (aa.add (m * 39)) = some (.int .i64 x.user) ∧ w'.cell? ⟨w.heap.size, 0, none⟩ = some (.int .i64 x.user)) (ds := []) #[false, false, false, false, false, false, false, false, false, false, false, false, false, false, false, false, false, false, false, false, false, false, false, false, false, false, false, false, false, false, false, false, false, false, false] (by kernel_rfl) rfl rfl ⟨y4, y6, y0, x0⟩ (fun hHeld => ?_)
        refine pure_ (i := 0) (N := some 128) (v := ?_) (a' := ?_) #[true, false, false, false, false, false, false, false, false, false, false, false, false, false, false, false, false, false, false, false, false, false, false, false, false, false, false, false, false, false, false, false, false, false, false] rfl rfl (by kernel_rfl) (fun _ _ _ h => h) (Or.inl ⟨by rfl, ?_⟩) ?_ ?_
        rotate_left
        · intro w'
          go_simp
          with_reducible rfl
        rotate_left
        · simp only [Act.put, List.setIfInBounds_toArray, List.set_cons_zero, List.set_cons_succ, i64_w, i32_w]
          rfl
        refine pure_ (i := 1) (N := some 129) (v := ?_) (a' := ?_) #[true, true, false, false, false, false, false, false, false, false, false, false, false, false, false, false, false, false, false, false, false, false, false, false, false, false, false, false, false, false, false, false, false, false, false] rfl rfl (by kernel_rfl) (fun _ _ _ h => h) (Or.inl ⟨by rfl, ?_⟩) ?_ ?_
        rotate_left
        · intro w'
          go_simp
          with_reducible rfl
        rotate_left
        · simp only [Act.put, List.setIfInBounds_toArray, List.set_cons_zero, List.set_cons_succ, i64_w, i32_w]
          rfl
        refine pure_ (i := 2) (N := some 130) (v := ?_) (a' := ?_) #[true, true, true, false, false, false, false, false, false, false, false, false, false, false, false, false, false, false, false, false, false, false, false, false, false, false, false, false, false, false, false, false, false, false, false] rfl rfl (by kernel_rfl) (fun _ _ _ h => h) (Or.inl ⟨by rfl, ?_⟩) ?_ ?_
        rotate_left
        · intro w'
          go_simp
          with_reducible rfl
        rotate_left
        · simp only [Act.put, List.setIfInBounds_toArray, List.set_cons_zero, List.set_cons_succ, i64_w, i32_w]
          rfl
        refine pure_ (i := 3) (N := some 131) (v := ?_) (a' := ?_) #[true, true, true, true, false, false, false, false, false, false, false, false, false, false, false, false, false, false, false, false, false, false, false, false, false, false, false, false, false, false, false, false, false, false, false] rfl rfl (by kernel_rfl) (fun _ _ _ h => h) (Or.inl ⟨by rfl, ?_⟩) ?_ ?_
        rotate_left
        · intro w'
          go_simp
          with_reducible rfl
        rotate_left
        · simp only [Act.put, List.setIfInBounds_toArray, List.set_cons_zero, List.set_cons_succ, i64_w, i32_w]
          rfl
        refine pure_ (i := 4) (N := some 132) (v := ?_) (a' := ?_) #[true, true, true, true, true, false, false, false, false, false, false, false, false, false, false, false, false, false, false, false, false, false, false, false, false, false, false, false, false, false, false, false, false, false, false] rfl rfl (by kernel_rfl) (fun _ _ _ h => h) (Or.inl ⟨by rfl, ?_⟩) ?_ ?_
        rotate_left
        · intro w'
          go_simp
          with_reducible rfl
        rotate_left
        · simp only [Act.put, List.setIfInBounds_toArray, List.set_cons_zero, List.set_cons_succ, i64_w, i32_w]
          rfl
        refine pure_ (i := 5) (N := some 133) (v := ?_) (a' := ?_) #[true, true, true, true, true, true, false, false, false, false, false, false, false, false, false, false, false, false, false, false, false, false, false, false, false, false, false, false, false, false, false, false, false, false, false] rfl rfl (by kernel_rfl) (fun _ _ _ h => h) (Or.inl ⟨by rfl, ?_⟩) ?_ ?_
        rotate_left
        · intro w'
          go_simp
          with_reducible rfl
        rotate_left
        · simp only [Act.put, List.setIfInBounds_toArray, List.set_cons_zero, List.set_cons_succ, i64_w, i32_w]
          rfl
        refine pure_ (i := 6) (N := some 134) (v := ?_) (a' := ?_) #[true, true, true, true, true, true, true, false, false, false, false, false, false, false, false, false, false, false, false, false, false, false, false, false, false, false, false, false, false, false, false, false, false, false, false] rfl rfl (by kernel_rfl) (fun _ _ _ h => h) (Or.inl ⟨by rfl, ?_⟩) ?_ ?_
        rotate_left
        · intro w'
          go_simp
          with_reducible rfl
        rotate_left
        · simp only [Act.put, List.setIfInBounds_toArray, List.set_cons_zero, List.set_cons_succ, i64_w, i32_w]
          rfl
        refine pure_ (i := 7) (N := some 135) (v := ?_) (a' := ?_) #[true, true, true, true, true, true, true, true, false, false, false, false, false, false, false, false, false, false, false, false, false, false, false, false, false, false, false, false, false, false, false, false, false, false, false] rfl rfl (by kernel_rfl) (fun _ _ _ h => h) (Or.inl ⟨by rfl, ?_⟩) ?_ ?_
        rotate_left
        · intro w'
          go_simp
          with_reducible rfl
        rotate_left
        · simp only [Act.put, List.setIfInBounds_toArray, List.set_cons_zero, List.set_cons_succ, i64_w, i32_w]
          rfl
        refine pure_ (i := 8) (N := some 136) (v := ?_) (a' := ?_) #[true, true, true, true, true, true, true, true, true, false, false, false, false, false, false, false, false, false, false, false, false, false, false, false, false, false, false, false, false, false, false, false, false, false, false] rfl rfl (by kernel_rfl) (fun _ _ _ h => h) (Or.inl ⟨by rfl, ?_⟩) ?_ ?_
        rotate_left
        · intro w'
          go_simp
          with_reducible rfl
        rotate_left
        · simp only [Act.put, List.setIfInBounds_toArray, List.set_cons_zero, List.set_cons_succ, i64_w, i32_w]
          rfl
        refine pure_ (i := 9) (N := some 137) (v := ?_) (a' := ?_) #[true, true, true, true, true, true, true, true, true, true, false, false, false, false, false, false, false, false, false, false, false, false, false, false, false, false, false, false, false, false, false, false, false, false, false] rfl rfl (by kernel_rfl) (fun _ _ _ h => h) (Or.inl ⟨by rfl, ?_⟩) ?_ ?_
        rotate_left
        · intro w'
          go_simp
          with_reducible rfl
        rotate_left
        · simp only [Act.put, List.setIfInBounds_toArray, List.set_cons_zero, List.set_cons_succ, i64_w, i32_w]
          rfl
        refine pure_ (i := 10) (N := some 138) (v := ?_) (a' := ?_) #[true, true, true, true, true, true, true, true, true, true, true, false, false, false, false, false, false, false, false, false, false, false, false, false, false, false, false, false, false, false, false, false, false, false, false] rfl rfl (by kernel_rfl) (fun _ _ _ h => h) (Or.inl ⟨by rfl, ?_⟩) ?_ ?_
        rotate_left
        · intro w'
          go_simp
          with_reducible rfl
        rotate_left
        · simp only [Act.put, List.setIfInBounds_toArray, List.set_cons_zero, List.set_cons_succ, i64_w, i32_w]
          rfl
        refine pure_ (i := 11) (N := some 139) (v := ?_) (a' := ?_) #[true, true, true, true, true, true, true, true, true, true, true, true, false, false, false, false, false, false, false, false, false, false, false, false, false, false, false, false, false, false, false, false, false, false, false] rfl rfl (by kernel_rfl) (fun _ _ _ h => h) (Or.inl ⟨by rfl, ?_⟩) ?_ ?_
        rotate_left
        · intro w'
          go_simp
          with_reducible rfl
        rotate_left
        · simp only [Act.put, List.setIfInBounds_toArray, List.set_cons_zero, List.set_cons_succ, i64_w, i32_w]
          rfl
        refine pure_ (i := 12) (N := some 140) (v := ?_) (a' := ?_) #[true, true, true, true, true, true, true, true, true, true, true, true, true, false, false, false, false, false, false, false, false, false, false, false, false, false, false, false, false, false, false, false, false, false, false] rfl rfl (by kernel_rfl) (fun _ _ _ h => h) (Or.inl ⟨by rfl, ?_⟩) ?_ ?_
        rotate_left
        · intro w'
          go_simp
          with_reducible rfl
        rotate_left
        · simp only [Act.put, List.setIfInBounds_toArray, List.set_cons_zero, List.set_cons_succ, i64_w, i32_w]
          rfl
        refine pure_ (i := 13) (N := some 141) (v := ?_) (a' := ?_) #[true, true, true, true, true, true, true, true, true, true, true, true, true, true, false, false, false, false, false, false, false, false, false, false, false, false, false, false, false, false, false, false, false, false, false] rfl rfl (by kernel_rfl) (fun _ _ _ h => h) (Or.inl ⟨by rfl, ?_⟩) ?_ ?_
        rotate_left
        · intro w'
          go_simp
          with_reducible rfl
        rotate_left
        · simp only [Act.put, List.setIfInBounds_toArray, List.set_cons_zero, List.set_cons_succ, i64_w, i32_w]
          rfl
        refine take_ (i := 14) (N := some 142) (v := ?_) (a' := ?_) #[true, true, true, true, true, true, true, true, true, true, true, true, true, true, true, false, false, false, false, false, false, false, false, false, false, false, false, false, false, false, false, false, false, false, false] rfl rfl (by kernel_rfl) (fun _ _ _ h => h) (Or.inl ⟨by rfl, ?_⟩) hHeld ?_ ?_
        rotate_left
        · rintro w' ⟨s0, s1, s2, s3⟩
          go_simp
          with_reducible rfl
        rotate_left
        · simp only [Act.put, List.setIfInBounds_toArray, List.set_cons_zero, List.set_cons_succ, i64_w, i32_w]
          rfl
        refine pure_ (i := 15) (N := some 143) (v := ?_) (a' := ?_) #[true, true, true, true, true, true, true, true, true, true, true, true, true, true, true, true, false, false, false, false, false, false, false, false, false, false, false, false, false, false, false, false, false, false, false] rfl rfl (by kernel_rfl) (fun _ _ _ h => h) (Or.inl ⟨by rfl, ?_⟩) ?_ ?_
        rotate_left
        · intro w'
          go_simp
          with_reducible rfl
        rotate_left
        · simp only [Act.put, List.setIfInBounds_toArray, List.set_cons_zero, List.set_cons_succ, i64_w, i32_w]
          rfl
        refine pure_ (i := 16) (N := some 144) (v := ?_) (a' := ?_) #[true, true, true, true, true, true, true, true, true, true, true, true, true, true, true, true, true, false, false, false, false, false, false, false, false, false, false, false, false, false, false, false, false, false, false] rfl rfl (by kernel_rfl) (fun _ _ _ h => h) (Or.inl ⟨by rfl, ?_⟩) ?_ ?_
        rotate_left
        · intro w'
          go_simp
          with_reducible rfl
        rotate_left
        · simp only [Act.put, List.setIfInBounds_toArray, List.set_cons_zero, List.set_cons_succ, i64_w, i32_w]
          rfl
        refine pure_ (i := 17) (N := some 145) (v := ?_) (a' := ?_) #[true, true, true, true, true, true, true, true, true, true, true, true, true, true, true, true, true, true, false, false, false, false, false, false, false, false, false, false, false, false, false, false, false, false, false] rfl rfl (by kernel_rfl) (fun _ _ _ h => h) (Or.inl ⟨by rfl, ?_⟩) ?_ ?_
        rotate_left
        · intro w'
          go_simp
          with_reducible rfl
        rotate_left
        · simp only [Act.put, List.setIfInBounds_toArray, List.set_cons_zero, List.set_cons_succ, i64_w, i32_w]
          rfl
        refine pure_ (i := 18) (N := some 146) (v := ?_) (a' := ?_) #[true, true, true, true, true, true, true, true, true, true, true, true, true, true, true, true, true, true, true, false, false, false, false, false, false, false, false, false, false, false, false, false, false, false, false] rfl rfl (by kernel_rfl) (fun _ _ _ h => h) (Or.inl ⟨by rfl, ?_⟩) ?_ ?_
        rotate_left
        · intro w'
          go_simp
          with_reducible rfl
        rotate_left
        · simp only [Act.put, List.setIfInBounds_toArray, List.set_cons_zero, List.set_cons_succ, i64_w, i32_w]
          rfl
        refine pure_ (i := 19) (N := some 147) (v := ?_) (a' := ?_) #[true, true, true, true, true, true, true, true, true, true, true, true, true, true, true, true, true, true, true, true, false, false, false, false, false, false, false, false, false, false, false, false, false, false, false] rfl rfl (by kernel_rfl) (fun _ _ _ h => h) (Or.inl ⟨by rfl, ?_⟩) ?_ ?_
        rotate_left
        · intro w'
          go_simp
          with_reducible rfl
        rotate_left
        · simp only [Act.put, List.setIfInBounds_toArray, List.set_cons_zero, List.set_cons_succ, i64_w, i32_w]
          rfl
        refine pure_ (i := 20) (N := some 148) (v := ?_) (a' := ?_) #[true, true, true, true, true, true, true, true, true, true, true, true, true, true, true, true, true, true, true, true, true, false, false, false, false, false, false, false, false, false, false, false, false, false, false] rfl rfl (by kernel_rfl) (fun _ _ _ h => h) (Or.inl ⟨by rfl, ?_⟩) ?_ ?_
        rotate_left
        · intro w'
          go_simp
          with_reducible rfl
        rotate_left
        · simp only [Act.put, List.setIfInBounds_toArray, List.set_cons_zero, List.set_cons_succ, i64_w, i32_w]
          rfl
        refine pure_ (i := 22) (N := some 150) (v := ?_) (a' := ?_) #[true, true, true, true, true, true, true, true, true, true, true, true, true, true, true, true, true, true, true, true, true, false, true, false, false, false, false, false, false, false, false, false, false, false, false] rfl rfl (by kernel_rfl) (fun _ _ _ h => h) (Or.inl ⟨by rfl, ?_⟩) ?_ ?_
        rotate_left
        · intro w'
          go_simp
          with_reducible rfl
        rotate_left
        · simp only [Act.put, List.setIfInBounds_toArray, List.set_cons_zero, List.set_cons_succ, i64_w, i32_w]
          rfl
        refine take_ (i := 21) (N := some 149) (v := ?_) (a' := ?_) #[true, true, true, true, true, true, true, true, true, true, true, true, true, true, true, true, true, true, true, true, true, true, true, false, false, false, false, false, false, false, false, false, false, false, false] rfl rfl (by kernel_rfl) (fun _ _ _ h => h) (Or.inl ⟨by rfl, ?_⟩) hHeld ?_ ?_
        rotate_left
        · rintro w' ⟨s0, s1, s2, s3⟩
          go_simp
          with_reducible rfl
        rotate_left
        · simp only [Act.put, List.setIfInBounds_toArray, List.set_cons_zero, List.set_cons_succ, i64_w, i32_w]
          rfl
        refine pure_ (i := 23) (N := some 151) (v := ?_) (a' := ?_) #[true, true, true, true, true, true, true, true, true, true, true, true, true, true, true, true, true, true, true, true, true, true, true, true, false, false, false, false, false, false, false, false, false, false, false] rfl rfl (by kernel_rfl) (fun _ _ _ h => h) (Or.inl ⟨by rfl, ?_⟩) ?_ ?_
        rotate_left
        · intro w'
          go_simp
          with_reducible rfl
        rotate_left
        · simp only [Act.put, List.setIfInBounds_toArray, List.set_cons_zero, List.set_cons_succ, i64_w, i32_w]
          rfl
        refine pure_ (i := 24) (N := some 152) (v := ?_) (a' := ?_) #[true, true, true, true, true, true, true, true, true, true, true, true, true, true, true, true, true, true, true, true, true, true, true, true, true, false, false, false, false, false, false, false, false, false, false] rfl rfl (by kernel_rfl) (fun _ _ _ h => h) (Or.inl ⟨by rfl, ?_⟩) ?_ ?_
        rotate_left
        · intro w'
          go_simp
          with_reducible rfl
        rotate_left
        · simp only [Act.put, List.setIfInBounds_toArray, List.set_cons_zero, List.set_cons_succ, i64_w, i32_w]
          rfl
        refine pure_ (i := 25) (N := some 153) (v := ?_) (a' := ?_) #[true, true, true, true, true, true, true, true, true, true, true, true, true, true, true, true, true, true, true, true, true, true, true, true, true, true, false, false, false, false, false, false, false, false, false] rfl rfl (by kernel_rfl) (fun _ _ _ h => h) (Or.inl ⟨by rfl, ?_⟩) ?_ ?_
        rotate_left
        · intro w'
          go_simp
          with_reducible rfl
        rotate_left
        · simp only [Act.put, List.setIfInBounds_toArray, List.set_cons_zero, List.set_cons_succ, i64_w, i32_w]
          rfl
        refine pure_ (i := 26) (N := some 154) (v := ?_) (a' := ?_) #[true, true, true, true, true, true, true, true, true, true, true, true, true, true, true, true, true, true, true, true, true, true, true, true, true, true, true, false, false, false, false, false, false, false, false] rfl rfl (by kernel_rfl) (fun _ _ _ h => h) (Or.inl ⟨by rfl, ?_⟩) ?_ ?_
        rotate_left
        · intro w'
          go_simp
          with_reducible rfl
        rotate_left
        · simp only [Act.put, List.setIfInBounds_toArray, List.set_cons_zero, List.set_cons_succ, i64_w, i32_w]
          rfl
        refine pure_ (i := 27) (N := some 155) (v := ?_) (a' := ?_) #[true, true, true, true, true, true, true, true, true, true, true, true, true, true, true, true, true, true, true, true, true, true, true, true, true, true, true, true, false, false, false, false, false, false, false] rfl rfl (by kernel_rfl) (fun _ _ _ h => h) (Or.inl ⟨by rfl, ?_⟩) ?_ ?_
        rotate_left
        · intro w'
          go_simp
          with_reducible rfl
        rotate_left
        · simp only [Act.put, List.setIfInBounds_toArray, List.set_cons_zero, List.set_cons_succ, i64_w, i32_w]
          rfl
        refine pure_ (i := 28) (N := some 156) (v := ?_) (a' := ?_) #[true, true, true, true, true, true, true, true, true, true, true, true, true, true, true, true, true, true, true, true, true, true, true, true, true, true, true, true, true, false, false, false, false, false, false] rfl rfl (by kernel_rfl) (fun _ _ _ h => h) (Or.inl ⟨by rfl, ?_⟩) ?_ ?_
        rotate_left
        · intro w'
          go_simp
          with_reducible rfl
        rotate_left
        · simp only [Act.put, List.setIfInBounds_toArray, List.set_cons_zero, List.set_cons_succ, i64_w, i32_w]
          rfl
        refine pure_ (i := 29) (N := some 157) (v := ?_) (a' := ?_) #[true, true, true, true, true, true, true, true, true, true, true, true, true, true, true, true, true, true, true, true, true, true, true, true, true, true, true, true, true, true, false, false, false, false, false] rfl rfl (by kernel_rfl) (fun _ _ _ h => h) (Or.inl ⟨by rfl, ?_⟩) ?_ ?_
        rotate_left
        · intro w'
          go_simp
          with_reducible rfl
        rotate_left
        · simp only [Act.put, List.setIfInBounds_toArray, List.set_cons_zero, List.set_cons_succ, i64_w, i32_w]
          rfl
        refine pure_ (i := 31) (N := some 159) (v := ?_) (a' := ?_) #[true, true, true, true, true, true, true, true, true, true, true, true, true, true, true, true, true, true, true, true, true, true, true, true, true, true, true, true, true, true, false, true, false, false, false] rfl rfl (by kernel_rfl) (fun _ _ _ h => h) (Or.inl ⟨by rfl, ?_⟩) ?_ ?_
        rotate_left
        · intro w'
          go_simp
          with_reducible rfl
        rotate_left
        · simp only [Act.put, List.setIfInBounds_toArray, List.set_cons_zero, List.set_cons_succ, i64_w, i32_w]
          rfl
        refine take_ (i := 30) (N := some 158) (v := ?_) (a' := ?_) #[true, true, true, true, true, true, true, true, true, true, true, true, true, true, true, true, true, true, true, true, true, true, true, true, true, true, true, true, true, true, true, true, false, false, false] rfl rfl (by kernel_rfl) (fun _ _ _ h => h) (Or.inl ⟨by rfl, ?_⟩) hHeld ?_ ?_
        rotate_left
        · rintro w' ⟨s0, s1, s2, s3⟩
          go_simp
          with_reducible rfl
        rotate_left
        · simp only [Act.put, List.setIfInBounds_toArray, List.set_cons_zero, List.set_cons_succ, i64_w, i32_w]
          rfl
        refine take_ (i := 32) (N := some 160) (v := ?_) (a' := ?_) #[true, true, true, true, true, true, true, true, true, true, true, true, true, true, true, true, true, true, true, true, true, true, true, true, true, true, true, true, true, true, true, true, true, false, false] rfl rfl (by kernel_rfl) (fun _ _ _ h => h) (Or.inl ⟨by rfl, ?_⟩) hHeld ?_ ?_
        rotate_left
        · rintro w' ⟨s0, s1, s2, s3⟩
          go_simp
          with_reducible rfl
        rotate_left
        · simp only [Act.put, List.setIfInBounds_toArray, List.set_cons_zero, List.set_cons_succ, i64_w, i32_w]
          rfl
        refine pure_ (i := 33) (N := some 161) (v := ?_) (a' := ?_) #[true, true, true, true, true, true, true, true, true, true, true, true, true, true, true, true, true, true, true, true, true, true, true, true, true, true, true, true, true, true, true, true, true, true, false] rfl rfl (by kernel_rfl) (fun _ _ _ h => h) (Or.inl ⟨by rfl, ?_⟩) ?_ ?_
        rotate_left
        · intro w'
          go_simp
          with_reducible rfl
        rotate_left
        · simp only [Act.put, List.setIfInBounds_toArray, List.set_cons_zero, List.set_cons_succ, i64_w, i32_w]
          rfl
        refine pure_ (i := 34) (N := some 162) (v := ?_) (a' := ?_) #[true, true, true, true, true, true, true, true, true, true, true, true, true, true, true, true, true, true, true, true, true, true, true, true, true, true, true, true, true, true, true, true, true, true, true] rfl rfl (by kernel_rfl) (fun _ _ _ h => h) (Or.inl ⟨by rfl, ?_⟩) ?_ ?_
        rotate_left
        · intro w'
          go_simp
          with_reducible rfl
        rotate_left
        · simp only [Act.put, List.setIfInBounds_toArray, List.set_cons_zero, List.set_cons_succ, i64_w, i32_w]
          rfl
        refine done_ (by kernel_rfl) ?_
        have X1 := Aside0.mk (blk_drew X.out)
        have HB1 := Aside0.mk (below_drew HB.out)
        have H11 := Aside0.mk (Kd.C_drew H1.out)
        clear X HB H1 y0 y4 y6 x0 x2 x4
        have X := X1
        have HB := HB1
        have H1 := H11
        clear X1 HB1 H11
        obtain ⟨x0, _, x2, _, x4, _, _⟩ := cellsS X.out
        go_wp2
        go_ret
        exact ⟨rfl, HB.out⟩
      | true =>
        have hdn : ((n : Int) == 0) = false := by
          have h5 := hnf rfl
          have h6 : (l.length : Int) = 4 := by simpa using hq4
          simpa using (show ¬ ((n : Int) = 0) by omega)
        clear hnf hn3
        go_wp2_with (first
          | (with_reducible refine load_S (.tmp 6) rfl rfl (p := ⟨w.heap.size, 0, none⟩) rfl (cells_box X.out) ?_)
          | (go_at_call 15; (with_reducible refine (begin_any x idle now l A c _ (Kd.C_below HR.out HB.out) HC.out HL.out a 0 HA.out).mono ?_); rintro e w1 ⟨v, rfl, ho, hb⟩; obtain ⟨A1, c1, rfl, hc1, hC1⟩ := ho; have HC1 := Aside0.mk hc1; have H1 := Aside0.mk hC1; have HB := Aside0.mk (below_step HB.out hb); have X := Aside0.mk (blk_below X.out hb); clear x0 x2 x4; obtain ⟨x0, _, x2, _, x4, _, _⟩ := cellsS X.out; rw [HOP.out] at x4; clear hb hc1 hC1)
          | (go_at_call 12; (with_reducible refine (find_any x.draw l A c _ (Kd.C_below HR.out HB.out)).mono ?_); rintro e w1 ⟨he_, hb⟩; rw [HF.out] at he_; subst he_; have H1 := Aside0.mk (Kd.C_below H1.out hb); have HB := Aside0.mk (below_step HB.out hb); have X := Aside0.mk (blk_below X.out hb); clear x0 x2 x4; obtain ⟨x0, _, x2, _, x4, _, _⟩ := cellsS X.out; rw [HOP.out] at x4; clear hb)
          | (go_at_call 12; (with_reducible refine (find_any x.draw a A1 c1 _ H1.out).mono ?_); rintro e w1 ⟨he_, hb⟩; rw [HF2.out] at he_; subst he_; have H1 := Aside0.mk (Kd.C_below H1.out hb); have HB := Aside0.mk (below_step HB.out hb); have X := Aside0.mk (blk_below X.out hb); clear x0 x2 x4; obtain ⟨x0, _, x2, _, x4, _, _⟩ := cellsS X.out; rw [HOP.out] at x4; clear hb))
        obtain ⟨aa, ea, _, y0, _, _, _, y4, _, y6⟩ := at_S H1.out m (by have := HLA1.out; omega) { x with last := now } HAM.out
        subst ea
        rw [show ({ x with last := now } : Ses).isOpen = false from HOP.out] at y4
        have hmi : (m : Int) < (a.length : Int) := by have := HLA1.out; omega
        refine start_ (n := 35) (S := fun w' => w'.cell? ⟨(aa.add (m * 39)).block, (aa.add (m * 39)).off + 36, none⟩ = some (.bool false) ∧ w'.cell? ⟨(aa.add (m * 39)).block, (aa.add (m * 39)).off + 38, none⟩ = some (.int .i64 now) ∧ w'.cell? (aa.add (m * 39)) = some (.int .i64 x.user) ∧ w'.cell? ⟨w.heap.size, 0, none⟩ = some (.int .i64 x.user)) (ds := []) #[false, false, false, false, false, false, false, false, false, false, false, false, false, false, false, false, false, false, false, false, false, false, false, false, false, false, false, false, false, false, false, false, false, false, false] (by kernel_rfl) rfl rfl ⟨y4, y6, y0, x0⟩ (fun hHeld => ?_)
        refine pure_ (i := 0) (N := some 128) (v := ?_) (a' := ?_) #[true, false, false, false, false, false, false, false, false, false, false, false, false, false, false, false, false, false, false, false, false, false, false, false, false, false, false, false, false, false, false, false, false, false, false] rfl rfl (by kernel_rfl) (fun _ _ _ h => h) (Or.inl ⟨by rfl, ?_⟩) ?_ ?_
        rotate_left
        · intro w'
          go_simp
          with_reducible rfl
        rotate_left
        · simp only [Act.put, List.setIfInBounds_toArray, List.set_cons_zero, List.set_cons_succ, i64_w, i32_w]
          rfl
        refine pure_ (i := 1) (N := some 129) (v := ?_) (a' := ?_) #[true, true, false, false, false, false, false, false, false, false, false, false, false, false, false, false, false, false, false, false, false, false, false, false, false, false, false, false, false, false, false, false, false, false, false] rfl rfl (by kernel_rfl) (fun _ _ _ h => h) (Or.inl ⟨by rfl, ?_⟩) ?_ ?_
        rotate_left
        · intro w'
          go_simp
          with_reducible rfl
        rotate_left
        · simp only [Act.put, List.setIfInBounds_toArray, List.set_cons_zero, List.set_cons_succ, i64_w, i32_w]
          rfl
        refine pure_ (i := 2) (N := some 130) (v := ?_) (a' := ?_) #[true, true, true, false, false, false, false, false, false, false, false, false, false, false, false, false, false, false, false, false, false, false, false, false, false, false, false, false, false, false, false, false, false, false, false] rfl rfl (by kernel_rfl) (fun _ _ _ h => h) (Or.inl ⟨by rfl, ?_⟩) ?_ ?_
        rotate_left
        · intro w'
          go_simp
          with_reducible rfl
        rotate_left
        · simp only [Act.put, List.setIfInBounds_toArray, List.set_cons_zero, List.set_cons_succ, i64_w, i32_w]
          rfl
        refine pure_ (i := 3) (N := some 131) (v := ?_) (a' := ?_) #[true, true, true, true, false, false, false, false, false, false, false, false, false, false, false, false, false, false, false, false, false, false, false, false, false, false, false, false, false, false, false, false, false, false, false] rfl rfl (by kernel_rfl) (fun _ _ _ h => h) (Or.inl ⟨by rfl, ?_⟩) ?_ ?_
        rotate_left
        · intro w'
          go_simp
          with_reducible rfl
        rotate_left
        · simp only [Act.put, List.setIfInBounds_toArray, List.set_cons_zero, List.set_cons_succ, i64_w, i32_w]
          rfl
        refine pure_ (i := 4) (N := some 132) (v := ?_) (a' := ?_) #[true, true, true, true, true, false, false, false, false, false, false, false, false, false, false, false, false, false, false, false, false, false, false, false, false, false, false, false, false, false, false, false, false, false, false] rfl rfl (by kernel_rfl) (fun _ _ _ h => h) (Or.inl ⟨by rfl, ?_⟩) ?_ ?_
        rotate_left
        · intro w'
          go_simp
          with_reducible rfl
        rotate_left
        · simp only [Act.put, List.setIfInBounds_toArray, List.set_cons_zero, List.set_cons_succ, i64_w, i32_w]
          rfl
        refine pure_ (i := 5) (N := some 133) (v := ?_) (a' := ?_) #[true, true, true, true, true, true, false, false, false, false, false, false, false, false, false, false, false, false, false, false, false, false, false, false, false, false, false, false, false, false, false, false, false, false, false] rfl rfl (by kernel_rfl) (fun _ _ _ h => h) (Or.inl ⟨by rfl, ?_⟩) ?_ ?_
        rotate_left
        · intro w'
          go_simp
          with_reducible rfl
        rotate_left
        · simp only [Act.put, List.setIfInBounds_toArray, List.set_cons_zero, List.set_cons_succ, i64_w, i32_w]
          rfl
        refine pure_ (i := 6) (N := some 134) (v := ?_) (a' := ?_) #[true, true, true, true, true, true, true, false, false, false, false, false, false, false, false, false, false, false, false, false, false, false, false, false, false, false, false, false, false, false, false, false, false, false, false] rfl rfl (by kernel_rfl) (fun _ _ _ h => h) (Or.inl ⟨by rfl, ?_⟩) ?_ ?_
        rotate_left
        · intro w'
          go_simp
          with_reducible rfl
        rotate_left
        · simp only [Act.put, List.setIfInBounds_toArray, List.set_cons_zero, List.set_cons_succ, i64_w, i32_w]
          rfl
        refine pure_ (i := 7) (N := some 135) (v := ?_) (a' := ?_) #[true, true, true, true, true, true, true, true, false, false, false, false, false, false, false, false, false, false, false, false, false, false, false, false, false, false, false, false, false, false, false, false, false, false, false] rfl rfl (by kernel_rfl) (fun _ _ _ h => h) (Or.inl ⟨by rfl, ?_⟩) ?_ ?_
        rotate_left
        · intro w'
          go_simp
          with_reducible rfl
        rotate_left
        · simp only [Act.put, List.setIfInBounds_toArray, List.set_cons_zero, List.set_cons_succ, i64_w, i32_w]
          rfl
        refine pure_ (i := 8) (N := some 136) (v := ?_) (a' := ?_) #[true, true, true, true, true, true, true, true, true, false, false, false, false, false, false, false, false, false, false, false, false, false, false, false, false, false, false, false, false, false, false, false, false, false, false] rfl rfl (by kernel_rfl) (fun _ _ _ h => h) (Or.inl ⟨by rfl, ?_⟩) ?_ ?_
        rotate_left
        · intro w'
          go_simp
          with_reducible rfl
        rotate_left
        · simp only [Act.put, List.setIfInBounds_toArray, List.set_cons_zero, List.set_cons_succ, i64_w, i32_w]
          rfl
        refine pure_ (i := 9) (N := some 137) (v := ?_) (a' := ?_) #[true, true, true, true, true, true, true, true, true, true, false, false, false, false, false, false, false, false, false, false, false, false, false, false, false, false, false, false, false, false, false, false, false, false, false] rfl rfl (by kernel_rfl) (fun _ _ _ h => h) (Or.inl ⟨by rfl, ?_⟩) ?_ ?_
        rotate_left
        · intro w'
          go_simp
          with_reducible rfl
        rotate_left
        · simp only [Act.put, List.setIfInBounds_toArray, List.set_cons_zero, List.set_cons_succ, i64_w, i32_w]
          rfl
        refine pure_ (i := 10) (N := some 138) (v := ?_) (a' := ?_) #[true, true, true, true, true, true, true, true, true, true, true, false, false, false, false, false, false, false, false, false, false, false, false, false, false, false, false, false, false, false, false, false, false, false, false] rfl rfl (by kernel_rfl) (fun _ _ _ h => h) (Or.inl ⟨by rfl, ?_⟩) ?_ ?_
        rotate_left
        · intro w'
          go_simp
          with_reducible rfl
        rotate_left
        · simp only [Act.put, List.setIfInBounds_toArray, List.set_cons_zero, List.set_cons_succ, i64_w, i32_w]
          rfl
        refine pure_ (i := 11) (N := some 139) (v := ?_) (a' := ?_) #[true, true, true, true, true, true, true, true, true, true, true, true, false, false, false, false, false, false, false, false, false, false, false, false, false, false, false, false, false, false, false, false, false, false, false] rfl rfl (by kernel_rfl) (fun _ _ _ h => h) (Or.inl ⟨by rfl, ?_⟩) ?_ ?_
        rotate_left
        · intro w'
          go_simp
          with_reducible rfl
        rotate_left
        · simp only [Act.put, List.setIfInBounds_toArray, List.set_cons_zero, List.set_cons_succ, i64_w, i32_w]
          rfl
        refine pure_ (i := 12) (N := some 140) (v := ?_) (a' := ?_) #[true, true, true, true, true, true, true, true, true, true, true, true, true, false, false, false, false, false, false, false, false, false, false, false, false, false, false, false, false, false, false, false, false, false, false] rfl rfl (by kernel_rfl) (fun _ _ _ h => h) (Or.inl ⟨by rfl, ?_⟩) ?_ ?_
        rotate_left
        · intro w'
          go_simp
          with_reducible rfl
        rotate_left
        · simp only [Act.put, List.setIfInBounds_toArray, List.set_cons_zero, List.set_cons_succ, i64_w, i32_w]
          rfl
        refine pure_ (i := 13) (N := some 141) (v := ?_) (a' := ?_) #[true, true, true, true, true, true, true, true, true, true, true, true, true, true, false, false, false, false, false, false, false, false, false, false, false, false, false, false, false, false, false, false, false, false, false] rfl rfl (by kernel_rfl) (fun _ _ _ h => h) (Or.inl ⟨by rfl, ?_⟩) ?_ ?_
        rotate_left
        · intro w'
          go_simp
          with_reducible rfl
        rotate_left
        · simp only [Act.put, List.setIfInBounds_toArray, List.set_cons_zero, List.set_cons_succ, i64_w, i32_w]
          rfl
        refine take_ (i := 14) (N := some 142) (v := ?_) (a' := ?_) #[true, true, true, true, true, true, true, true, true, true, true, true, true, true, true, false, false, false, false, false, false, false, false, false, false, false, false, false, false, false, false, false, false, false, false] rfl rfl (by kernel_rfl) (fun _ _ _ h => h) (Or.inl ⟨by rfl, ?_⟩) hHeld ?_ ?_
        rotate_left
        · rintro w' ⟨s0, s1, s2, s3⟩
          go_simp
          with_reducible rfl
        rotate_left
        · simp only [Act.put, List.setIfInBounds_toArray, List.set_cons_zero, List.set_cons_succ, i64_w, i32_w]
          rfl
        refine pure_ (i := 15) (N := some 143) (v := ?_) (a' := ?_) #[true, true, true, true, true, true, true, true, true, true, true, true, true, true, true, true, false, false, false, false, false, false, false, false, false, false, false, false, false, false, false, false, false, false, false] rfl rfl (by kernel_rfl) (fun _ _ _ h => h) (Or.inl ⟨by rfl, ?_⟩) ?_ ?_
        rotate_left
        · intro w'
          go_simp
          with_reducible rfl
        rotate_left
        · simp only [Act.put, List.setIfInBounds_toArray, List.set_cons_zero, List.set_cons_succ, i64_w, i32_w]
          rfl
        refine pure_ (i := 16) (N := some 144) (v := ?_) (a' := ?_) #[true, true, true, true, true, true, true, true, true, true, true, true, true, true, true, true, true, false, false, false, false, false, false, false, false, false, false, false, false, false, false, false, false, false, false] rfl rfl (by kernel_rfl) (fun _ _ _ h => h) (Or.inl ⟨by rfl, ?_⟩) ?_ ?_
        rotate_left
        · intro w'
          go_simp
          with_reducible rfl
        rotate_left
        · simp only [Act.put, List.setIfInBounds_toArray, List.set_cons_zero, List.set_cons_succ, i64_w, i32_w]
          rfl
        refine pure_ (i := 17) (N := some 145) (v := ?_) (a' := ?_) #[true, true, true, true, true, true, true, true, true, true, true, true, true, true, true, true, true, true, false, false, false, false, false, false, false, false, false, false, false, false, false, false, false, false, false] rfl rfl (by kernel_rfl) (fun _ _ _ h => h) (Or.inl ⟨by rfl, ?_⟩) ?_ ?_
        rotate_left
        · intro w'
          go_simp
          with_reducible rfl
        rotate_left
        · simp only [Act.put, List.setIfInBounds_toArray, List.set_cons_zero, List.set_cons_succ, i64_w, i32_w]
          rfl
        refine pure_ (i := 18) (N := some 146) (v := ?_) (a' := ?_) #[true, true, true, true, true, true, true, true, true, true, true, true, true, true, true, true, true, true, true, false, false, false, false, false, false, false, false, false, false, false, false, false, false, false, false] rfl rfl (by kernel_rfl) (fun _ _ _ h => h) (Or.inl ⟨by rfl, ?_⟩) ?_ ?_
        rotate_left
        · intro w'
          go_simp
          with_reducible rfl
        rotate_left
        · simp only [Act.put, List.setIfInBounds_toArray, List.set_cons_zero, List.set_cons_succ, i64_w, i32_w]
          rfl
        refine pure_ (i := 19) (N := some 147) (v := ?_) (a' := ?_) #[true, true, true, true, true, true, true, true, true, true, true, true, true, true, true, true, true, true, true, true, false, false, false, false, false, false, false, false, false, false, false, false, false, false, false] rfl rfl (by kernel_rfl) (fun _ _ _ h => h) (Or.inl ⟨by rfl, ?_⟩) ?_ ?_
        rotate_left
        · intro w'
          go_simp
          with_reducible rfl
        rotate_left
        · simp only [Act.put, List.setIfInBounds_toArray, List.set_cons_zero, List.set_cons_succ, i64_w, i32_w]
          rfl
        refine pure_ (i := 20) (N := some 148) (v := ?_) (a' := ?_) #[true, true, true, true, true, true, true, true, true, true, true, true, true, true, true, true, true, true, true, true, true, false, false, false, false, false, false, false, false, false, false, false, false, false, false] rfl rfl (by kernel_rfl) (fun _ _ _ h => h) (Or.inl ⟨by rfl, ?_⟩) ?_ ?_
        rotate_left
        · intro w'
          go_simp
          with_reducible rfl
        rotate_left
        · simp only [Act.put, List.setIfInBounds_toArray, List.set_cons_zero, List.set_cons_succ, i64_w, i32_w]
          rfl
        refine pure_ (i := 22) (N := some 150) (v := ?_) (a' := ?_) #[true, true, true, true, true, true, true, true, true, true, true, true, true, true, true, true, true, true, true, true, true, false, true, false, false, false, false, false, false, false, false, false, false, false, false] rfl rfl (by kernel_rfl) (fun _ _ _ h => h) (Or.inl ⟨by rfl, ?_⟩) ?_ ?_
        rotate_left
        · intro w'
          go_simp
          with_reducible rfl
        rotate_left
        · simp only [Act.put, List.setIfInBounds_toArray, List.set_cons_zero, List.set_cons_succ, i64_w, i32_w]
          rfl
        refine take_ (i := 21) (N := some 149) (v := ?_) (a' := ?_) #[true, true, true, true, true, true, true, true, true, true, true, true, true, true, true, true, true, true, true, true, true, true, true, false, false, false, false, false, false, false, false, false, false, false, false] rfl rfl (by kernel_rfl) (fun _ _ _ h => h) (Or.inl ⟨by rfl, ?_⟩) hHeld ?_ ?_
        rotate_left
        · rintro w' ⟨s0, s1, s2, s3⟩
          go_simp
          with_reducible rfl
        rotate_left
        · simp only [Act.put, List.setIfInBounds_toArray, List.set_cons_zero, List.set_cons_succ, i64_w, i32_w]
          rfl
        refine pure_ (i := 23) (N := some 151) (v := ?_) (a' := ?_) #[true, true, true, true, true, true, true, true, true, true, true, true, true, true, true, true, true, true, true, true, true, true, true, true, false, false, false, false, false, false, false, false, false, false, false] rfl rfl (by kernel_rfl) (fun _ _ _ h => h) (Or.inl ⟨by rfl, ?_⟩) ?_ ?_
        rotate_left
        · intro w'
          go_simp
          with_reducible rfl
        rotate_left
        · simp only [Act.put, List.setIfInBounds_toArray, List.set_cons_zero, List.set_cons_succ, i64_w, i32_w]
          rfl
        refine pure_ (i := 24) (N := some 152) (v := ?_) (a' := ?_) #[true, true, true, true, true, true, true, true, true, true, true, true, true, true, true, true, true, true, true, true, true, true, true, true, true, false, false, false, false, false, false, false, false, false, false] rfl rfl (by kernel_rfl) (fun _ _ _ h => h) (Or.inl ⟨by rfl, ?_⟩) ?_ ?_
        rotate_left
        · intro w'
          go_simp
          with_reducible rfl
        rotate_left
        · simp only [Act.put, List.setIfInBounds_toArray, List.set_cons_zero, List.set_cons_succ, i64_w, i32_w]
          rfl
        refine pure_ (i := 25) (N := some 153) (v := ?_) (a' := ?_) #[true, true, true, true, true, true, true, true, true, true, true, true, true, true, true, true, true, true, true, true, true, true, true, true, true, true, false, false, false, false, false, false, false, false, false] rfl rfl (by kernel_rfl) (fun _ _ _ h => h) (Or.inl ⟨by rfl, ?_⟩) ?_ ?_
        rotate_left
        · intro w'
          go_simp
          with_reducible rfl
        rotate_left
        · simp only [Act.put, List.setIfInBounds_toArray, List.set_cons_zero, List.set_cons_succ, i64_w, i32_w]
          rfl
        refine pure_ (i := 26) (N := some 154) (v := ?_) (a' := ?_) #[true, true, true, true, true, true, true, true, true, true, true, true, true, true, true, true, true, true, true, true, true, true, true, true, true, true, true, false, false, false, false, false, false, false, false] rfl rfl (by kernel_rfl) (fun _ _ _ h => h) (Or.inl ⟨by rfl, ?_⟩) ?_ ?_
        rotate_left
        · intro w'
          go_simp
          with_reducible rfl
        rotate_left
        · simp only [Act.put, List.setIfInBounds_toArray, List.set_cons_zero, List.set_cons_succ, i64_w, i32_w]
          rfl
        refine pure_ (i := 27) (N := some 155) (v := ?_) (a' := ?_) #[true, true, true, true, true, true, true, true, true, true, true, true, true, true, true, true, true, true, true, true, true, true, true, true, true, true, true, true, false, false, false, false, false, false, false] rfl rfl (by kernel_rfl) (fun _ _ _ h => h) (Or.inl ⟨by rfl, ?_⟩) ?_ ?_
        rotate_left
        · intro w'
          go_simp
          with_reducible rfl
        rotate_left
        · simp only [Act.put, List.setIfInBounds_toArray, List.set_cons_zero, List.set_cons_succ, i64_w, i32_w]
          rfl
        refine pure_ (i := 28) (N := some 156) (v := ?_) (a' := ?_) #[true, true, true, true, true, true, true, true, true, true, true, true, true, true, true, true, true, true, true, true, true, true, true, true, true, true, true, true, true, false, false, false, false, false, false] rfl rfl (by kernel_rfl) (fun _ _ _ h => h) (Or.inl ⟨by rfl, ?_⟩) ?_ ?_
        rotate_left
        · intro w'
          go_simp
          with_reducible rfl
        rotate_left
        · simp only [Act.put, List.setIfInBounds_toArray, List.set_cons_zero, List.set_cons_succ, i64_w, i32_w]
          rfl
        refine pure_ (i := 29) (N := some 157) (v := ?_) (a' := ?_) #[true, true, true, true, true, true, true, true, true, true, true, true, true, true, true, true, true, true, true, true, true, true, true, true, true, true, true, true, true, true, false, false, false, false, false] rfl rfl (by kernel_rfl) (fun _ _ _ h => h) (Or.inl ⟨by rfl, ?_⟩) ?_ ?_
        rotate_left
        · intro w'
          go_simp
          with_reducible rfl
        rotate_left
        · simp only [Act.put, List.setIfInBounds_toArray, List.set_cons_zero, List.set_cons_succ, i64_w, i32_w]
          rfl
        refine pure_ (i := 31) (N := some 159) (v := ?_) (a' := ?_) #[true, true, true, true, true, true, true, true, true, true, true, true, true, true, true, true, true, true, true, true, true, true, true, true, true, true, true, true, true, true, false, true, false, false, false] rfl rfl (by kernel_rfl) (fun _ _ _ h => h) (Or.inl ⟨by rfl, ?_⟩) ?_ ?_
        rotate_left
        · intro w'
          go_simp
          with_reducible rfl
        rotate_left
        · simp only [Act.put, List.setIfInBounds_toArray, List.set_cons_zero, List.set_cons_succ, i64_w, i32_w]
          rfl
        refine take_ (i := 30) (N := some 158) (v := ?_) (a' := ?_) #[true, true, true, true, true, true, true, true, true, true, true, true, true, true, true, true, true, true, true, true, true, true, true, true, true, true, true, true, true, true, true, true, false, false, false] rfl rfl (by kernel_rfl) (fun _ _ _ h => h) (Or.inl ⟨by rfl, ?_⟩) hHeld ?_ ?_
        rotate_left
        · rintro w' ⟨s0, s1, s2, s3⟩
          go_simp
          with_reducible rfl
        rotate_left
        · simp only [Act.put, List.setIfInBounds_toArray, List.set_cons_zero, List.set_cons_succ, i64_w, i32_w]
          rfl
        refine take_ (i := 32) (N := some 160) (v := ?_) (a' := ?_) #[true, true, true, true, true, true, true, true, true, true, true, true, true, true, true, true, true, true, true, true, true, true, true, true, true, true, true, true, true, true, true, true, true, false, false] rfl rfl (by kernel_rfl) (fun _ _ _ h => h) (Or.inl ⟨by rfl, ?_⟩) hHeld ?_ ?_
        rotate_left
        · rintro w' ⟨s0, s1, s2, s3⟩
          go_simp
          with_reducible rfl
        rotate_left
        · simp only [Act.put, List.setIfInBounds_toArray, List.set_cons_zero, List.set_cons_succ, i64_w, i32_w]
          rfl
        refine pure_ (i := 33) (N := some 161) (v := ?_) (a' := ?_) #[true, true, true, true, true, true, true, true, true, true, true, true, true, true, true, true, true, true, true, true, true, true, true, true, true, true, true, true, true, true, true, true, true, true, false] rfl rfl (by kernel_rfl) (fun _ _ _ h => h) (Or.inl ⟨by rfl, ?_⟩) ?_ ?_
        rotate_left
        · intro w'
          go_simp
          with_reducible rfl
        rotate_left
        · simp only [Act.put, List.setIfInBounds_toArray, List.set_cons_zero, List.set_cons_succ, i64_w, i32_w]
          rfl
        refine pure_ (i := 34) (N := some 162) (v := ?_) (a' := ?_) #[true, true, true, true, true, true, true, true, true, true, true, true, true, true, true, true, true, true, true, true, true, true, true, true, true, true, true, true, true, true, true, true, true, true, true] rfl rfl (by kernel_rfl) (fun _ _ _ h => h) (Or.inl ⟨by rfl, ?_⟩) ?_ ?_
        rotate_left
        · intro w'
          go_simp
          with_reducible rfl
        rotate_left
        · simp only [Act.put, List.setIfInBounds_toArray, List.set_cons_zero, List.set_cons_succ, i64_w, i32_w]
          rfl
        refine done_ (by kernel_rfl) ?_
        have X1 := Aside0.mk (blk_drew X.out)
        have HB1 := Aside0.mk (below_drew HB.out)
        have H11 := Aside0.mk (Kd.C_drew H1.out)
        clear X HB H1 y0 y4 y6 x0 x2 x4
        have X := X1
        have HB := HB1
        have H1 := H11
        clear X1 HB1 H11
        obtain ⟨x0, _, x2, _, x4, _, _⟩ := cellsS X.out
        go_wp2
        go_ret
        exact ⟨rfl, HB.out⟩
set_option maxHeartbeats 4000000 in
set_option maxRecDepth 100000 in
theorem room_z2 (l : List Ses) (A : Option Addr) (c : Nat) (x : Ses) (idle now i : Int) (w : World) (hr : kS.C w A l.length l) (hc : l.length ≤ c) (hfew : decide (l.length ≤ 8) = true) (hm : mayS l = true) (hm1 : mayS [x] = true) (hop : x.isOpen = false) (h : 1 ≤ idle) (h2 : idle ≤ 1048576) (h3 : 0 ≤ now) (h4 : now ≤ 1073741824) (hl : l.length < 1000000) (a : List Ses) (fd : Int) (ha : beginS l x idle now = (a, 0)) (hf : findS l x.draw = fd) (h0 : fd < 0) (m : Nat) (hla1 : a.length = m + 1) (hm2 : (m : Int) ≤ 1000000) (ham : a[m]? = some { x with last := now }) (hf2 : findS a x.draw = m) (q4 : Bool) (hq4 : ((l.length : Int) == 4) = q4) (hnf : q4 = true → (awakeS l idle now).length ≠ 4) (hi : 0 ≤ i) (hi2 : (l.length : Int) ≤ i) :
    Calls Try.prog 5 #[.slice A l.length c, .agg (sca x), .int .i64 idle, .int .i64 now, .int .i64 i] w fun e w' => e = .returned (.bool true) ∧ Below w.heap.size w w' := by
  have HR := Aside0.mk hr
  have HC := Aside0.mk hc
  clear hr hc
  have HFEW := Aside0.mk hfew
  clear hfew
  have HM := Aside0.mk hm
  have HM1 := Aside0.mk hm1
  have HOP := Aside0.mk hop
  clear hm hm1 hop
  have HL := Aside0.mk hl
  have HA := Aside0.mk ha
  have HF := Aside0.mk hf
  clear hl ha hf
  go_enter Try.func5, Try.ntmps5
  go_wp2_with (first
    | (go_at_call 9; (with_reducible refine (awake_any _).mono ?_); rintro e w1 ⟨rfl, hb⟩; have X := Aside0.mk (blk_below (blk_new w (.cells (sca x) 35)) hb); have HB := Aside0.mk (below_step (below_box w x) hb); obtain ⟨x0, _, x2, _, x4, _, _⟩ := cellsS X.out; rw [HOP.out] at x4; clear hb)
    | (go_at_call 10; (with_reducible refine (few_any l A c _).mono ?_); rintro e w1 ⟨he_, rfl⟩; rw [HFEW.out] at he_; subst he_)
    | (go_at_call 13; (with_reducible refine (mayL_any l A c _ (Kd.C_below HR.out HB.out) HC.out).mono ?_); rintro e w1 ⟨he_, hb⟩; rw [HM.out] at he_; subst he_; have HB := Aside0.mk (below_step HB.out hb); have X := Aside0.mk (blk_below X.out hb); clear x0 x2 x4; obtain ⟨x0, _, x2, _, x4, _, _⟩ := cellsS X.out; rw [HOP.out] at x4; clear hb)
    | ((with_reducible refine gate_load 35 (.tmp 6) rfl ?_); refine load_Sw (.tmp 6) rfl (by rfl) (p := ⟨w.heap.size, 0, none⟩) rfl (cells_box X.out) ?_)
    | ((with_reducible refine gate_build (.tmp 35) rfl ?_); refine gate_guard (by rfl) ?_; dsimp only; refine Kd.event_run rfl (exec_buildS (.tmp 35) rfl rfl) ?_; have HROW := Aside0.mk (row_one w1 x); have X := Aside0.mk (blk_alloc X.out (.cells (sca x) 35)); have HB := Aside0.mk (below_alloc HB.out (.cells (sca x) 35)); clear x0 x2 x4; obtain ⟨x0, _, x2, _, x4, _, _⟩ := cellsS X.out; rw [HOP.out] at x4)
    | (go_at_call 13; (with_reducible refine (may_1 x _ 1 _ HROW.out (Nat.le_refl _)).mono ?_); rintro e w1 ⟨he_, hb⟩; rw [HM1.out] at he_; subst he_; have HB := Aside0.mk (below_step HB.out hb); have X := Aside0.mk (blk_below X.out hb); clear x0 x2 x4; obtain ⟨x0, _, x2, _, x4, _, _⟩ := cellsS X.out; rw [HOP.out] at x4; clear hb))
  go_loopw [13, 14] (fun v13 v14 wr => ∃ j : Nat, j ≤ l.length ∧ v13 = .int .i64 (lateN (l.take j) idle now) ∧ v14 = .int .i64 j ∧ Aside0 (wr.heap[w.heap.size]? = some (.cells (sca x) 35 (0, 0))) ∧ Aside0 (Below w.heap.size w wr)) (fun _ v14 _ => l.length - (intOf v14).toNat)
  case atStart => exact ⟨0, by omega, rfl, rfl, X, HB⟩
  case round =>
    clear X HB x0 x2 x4 HROW
    obtain ⟨j, hj, rfl, rfl, X, HB⟩ := hrel
    obtain ⟨wo, rfl⟩ : ∃ wo : World, wo = wr := ⟨_, rfl⟩
    obtain ⟨x0, _, x2, _, x4, _, _⟩ := cellsS X.out
    rw [HOP.out] at x4
    have hn1 := lateN_le l idle now j
    have hn2 : l.length ≤ 1000000 := by have := HL.out; omega
    by_cases hlt : j < l.length
    · obtain ⟨y, hy⟩ : ∃ y, l[j]? = some y := ⟨_, List.getElem?_eq_getElem hlt⟩
      obtain ⟨ad, e0, hall⟩ := all_S HR.out hlt hy
      subst e0
      have HX := Aside0.mk hall
      have HY := Aside0.mk hy
      clear hall hy
      cases hla : lateB y idle now with
      | true =>
        have HLA := Aside0.mk hla
        have HN := Aside0.mk (lateN_yes HY.out hla)
        clear hla
        generalize lateN (l.take j) idle now = n at *
        go_wp2_with (first
          | (with_reducible refine load_S (.tmp 69) rfl rfl (p := ad.add (j * 39)) rfl (HX.out _ HB.out) ?_)
          | (go_at_call 14; (with_reducible refine (late_any y idle now _).mono ?_); rintro e w1 ⟨he_, hb⟩; rw [HLA.out] at he_; subst he_; have HB := Aside0.mk (below_step HB.out hb); have X := Aside0.mk (blk_below X.out hb); clear x0 x2 x4; obtain ⟨x0, _, x2, _, x4, _, _⟩ := cellsS X.out; rw [HOP.out] at x4; clear hb))
        go_roundw
        case rel => exact ⟨j + 1, by omega, by rw [HN.out]; go_num, by go_num, X, HB⟩
        case measure => simp [intOf]; omega
      | false =>
        have HLA := Aside0.mk hla
        have HN := Aside0.mk (lateN_no HY.out hla)
        clear hla
        generalize lateN (l.take j) idle now = n at *
        go_wp2_with (first
          | (with_reducible refine load_S (.tmp 69) rfl rfl (p := ad.add (j * 39)) rfl (HX.out _ HB.out) ?_)
          | (go_at_call 14; (with_reducible refine (late_any y idle now _).mono ?_); rintro e w1 ⟨he_, hb⟩; rw [HLA.out] at he_; subst he_; have HB := Aside0.mk (below_step HB.out hb); have X := Aside0.mk (blk_below X.out hb); clear x0 x2 x4; obtain ⟨x0, _, x2, _, x4, _, _⟩ := cellsS X.out; rw [HOP.out] at x4; clear hb))
        go_roundw
        case rel => exact ⟨j + 1, by omega, by rw [HN.out], by go_num, X, HB⟩
        case measure => simp [intOf]; omega
    · obtain rfl : j = l.length := by omega
      rw [List.take_length] at hn1
      simp only [List.take_length]
      have hn3 := lateN_awake l idle now
      obtain ⟨n, hn⟩ : ∃ n, lateN l idle now = n := ⟨_, rfl⟩
      rw [hn] at hn1 hn3
      simp only [hn]
      clear hn
      have hd : decide (0 ≤ fd) = false := decide_eq_false (by omega)
      have HLA1 := Aside0.mk hla1
      have HAM := Aside0.mk ham
      have HF2 := Aside0.mk hf2
      have hal : (a.length : Int) - 1 = m := by omega
      have hm0 : decide ((m : Int) < 0) = false := by simp
      have hw4 : Go.RowKit.wrap64 (m : Int) = (m : Int) := by unfold Go.RowKit.wrap64; omega
      clear hla1 ham hf2
      cases q4 with
      | false =>
        clear hnf hn3
        go_wp2_with (first
          | (with_reducible refine load_S (.tmp 6) rfl rfl (p := ⟨w.heap.size, 0, none⟩) rfl (cells_box X.out) ?_)
          | (go_at_call 15; (with_reducible refine (begin_any x idle now l A c _ (Kd.C_below HR.out HB.out) HC.out HL.out a 0 HA.out).mono ?_); rintro e w1 ⟨v, rfl, ho, hb⟩; obtain ⟨A1, c1, rfl, hc1, hC1⟩ := ho; have HC1 := Aside0.mk hc1; have H1 := Aside0.mk hC1; have HB := Aside0.mk (below_step HB.out hb); have X := Aside0.mk (blk_below X.out hb); clear x0 x2 x4; obtain ⟨x0, _, x2, _, x4, _, _⟩ := cellsS X.out; rw [HOP.out] at x4; clear hb hc1 hC1)
          | (go_at_call 12; (with_reducible refine (find_any x.draw l A c _ (Kd.C_below HR.out HB.out)).mono ?_); rintro e w1 ⟨he_, hb⟩; rw [HF.out] at he_; subst he_; have H1 := Aside0.mk (Kd.C_below H1.out hb); have HB := Aside0.mk (below_step HB.out hb); have X := Aside0.mk (blk_below X.out hb); clear x0 x2 x4; obtain ⟨x0, _, x2, _, x4, _, _⟩ := cellsS X.out; rw [HOP.out] at x4; clear hb)
          | (go_at_call 12; (with_reducible refine (find_any x.draw a A1 c1 _ H1.out).mono ?_); rintro e w1 ⟨he_, hb⟩; rw [HF2.out] at he_; subst he_; have H1 := Aside0.mk (Kd.C_below H1.out hb); have HB := Aside0.mk (below_step HB.out hb); have X := Aside0.mk (blk_below X.out hb); clear x0 x2 x4; obtain ⟨x0, _, x2, _, x4, _, _⟩ := cellsS X.out; rw [HOP.out] at x4; clear hb))
        obtain ⟨aa, ea, _, y0, _, _, _, y4, _, y6⟩ := at_S H1.out m (by have := HLA1.out; omega) { x with last := now } HAM.out
        subst ea
        rw [show ({ x with last := now } : Ses).isOpen = false from HOP.out] at y4
        have hmi : (m : Int) < (a.length : Int) := by have := HLA1.out; omega
        refine start_ (n := 35) (S := fun w' => w'.cell? ⟨(aa.add (m * 39)).block, (aa.add (m * 39)).off + 36, none⟩ = some (.bool false) ∧ w'.cell? ⟨(aa.add (m * 39)).block, (aa.add (m * 39)).off + 38, none⟩ = some (.int .i64 now) ∧ w'.cell? (aa.add (m * 39)) = some (.int .i64 x.user) ∧ w'.cell? ⟨w.heap.size, 0, none⟩ = some (.int .i64 x.user)) (ds := []) #[false, false, false, false, false, false, false, false, false, false, false, false, false, false, false, false, false, false, false, false, false, false, false, false, false, false, false, false, false, false, false, false, false, false, false] (by kernel_rfl) rfl rfl ⟨y4, y6, y0, x0⟩ (fun hHeld => ?_)
        refine pure_ (i := 0) (N := some 128) (v := ?_) (a' := ?_) #[true, false, false, false, false, false, false, false, false, false, false, false, false, false, false, false, false, false, false, false, false, false, false, false, false, false, false, false, false, false, false, false, false, false, false] rfl rfl (by kernel_rfl) (fun _ _ _ h => h) (Or.inl ⟨by rfl, ?_⟩) ?_ ?_
        rotate_left
        · intro w'
          go_simp
          with_reducible rfl
        rotate_left
        · simp only [Act.put, List.setIfInBounds_toArray, List.set_cons_zero, List.set_cons_succ, i64_w, i32_w]
          rfl
        refine pure_ (i := 1) (N := some 129) (v := ?_) (a' := ?_) #[true, true, false, false, false, false, false, false, false, false, false, false, false, false, false, false, false, false, false, false, false, false, false, false, false, false, false, false, false, false, false, false, false, false, false] rfl rfl (by kernel_rfl) (fun _ _ _ h => h) (Or.inl ⟨by rfl, ?_⟩) ?_ ?_
        rotate_left
        · intro w'
          go_simp
          with_reducible rfl
        rotate_left
        · simp only [Act.put, List.setIfInBounds_toArray, List.set_cons_zero, List.set_cons_succ, i64_w, i32_w]
          rfl
        refine pure_ (i := 2) (N := some 130) (v := ?_) (a' := ?_) #[true, true, true, false, false, false, false, false, false, false, false, false, false, false, false, false, false, false, false, false, false, false, false, false, false, false, false, false, false, false, false, false, false, false, false] rfl rfl (by kernel_rfl) (fun _ _ _ h => h) (Or.inl ⟨by rfl, ?_⟩) ?_ ?_
        rotate_left
        · intro w'
          go_simp
          with_reducible rfl
        rotate_left
        · simp only [Act.put, List.setIfInBounds_toArray, List.set_cons_zero, List.set_cons_succ, i64_w, i32_w]
          rfl
        refine pure_ (i := 3) (N := some 131) (v := ?_) (a' := ?_) #[true, true, true, true, false, false, false, false, false, false, false, false, false, false, false, false, false, false, false, false, false, false, false, false, false, false, false, false, false, false, false, false, false, false, false] rfl rfl (by kernel_rfl) (fun _ _ _ h => h) (Or.inl ⟨by rfl, ?_⟩) ?_ ?_
        rotate_left
        · intro w'
          go_simp
          with_reducible rfl
        rotate_left
        · simp only [Act.put, List.setIfInBounds_toArray, List.set_cons_zero, List.set_cons_succ, i64_w, i32_w]
          rfl
        refine pure_ (i := 4) (N := some 132) (v := ?_) (a' := ?_) #[true, true, true, true, true, false, false, false, false, false, false, false, false, false, false, false, false, false, false, false, false, false, false, false, false, false, false, false, false, false, false, false, false, false, false] rfl rfl (by kernel_rfl) (fun _ _ _ h => h) (Or.inl ⟨by rfl, ?_⟩) ?_ ?_
        rotate_left
        · intro w'
          go_simp
          with_reducible rfl
        rotate_left
        · simp only [Act.put, List.setIfInBounds_toArray, List.set_cons_zero, List.set_cons_succ, i64_w, i32_w]
          rfl
        refine pure_ (i := 5) (N := some 133) (v := ?_) (a' := ?_) #[true, true, true, true, true, true, false, false, false, false, false, false, false, false, false, false, false, false, false, false, false, false, false, false, false, false, false, false, false, false, false, false, false, false, false] rfl rfl (by kernel_rfl) (fun _ _ _ h => h) (Or.inl ⟨by rfl, ?_⟩) ?_ ?_
        rotate_left
        · intro w'
          go_simp
          with_reducible rfl
        rotate_left
        · simp only [Act.put, List.setIfInBounds_toArray, List.set_cons_zero, List.set_cons_succ, i64_w, i32_w]
          rfl
        refine pure_ (i := 6) (N := some 134) (v := ?_) (a' := ?_) #[true, true, true, true, true, true, true, false, false, false, false, false, false, false, false, false, false, false, false, false, false, false, false, false, false, false, false, false, false, false, false, false, false, false, false] rfl rfl (by kernel_rfl) (fun _ _ _ h => h) (Or.inl ⟨by rfl, ?_⟩) ?_ ?_
        rotate_left
        · intro w'
          go_simp
          with_reducible rfl
        rotate_left
        · simp only [Act.put, List.setIfInBounds_toArray, List.set_cons_zero, List.set_cons_succ, i64_w, i32_w]
          rfl
        refine pure_ (i := 7) (N := some 135) (v := ?_) (a' := ?_) #[true, true, true, true, true, true, true, true, false, false, false, false, false, false, false, false, false, false, false, false, false, false, false, false, false, false, false, false, false, false, false, false, false, false, false] rfl rfl (by kernel_rfl) (fun _ _ _ h => h) (Or.inl ⟨by rfl, ?_⟩) ?_ ?_
        rotate_left
        · intro w'
          go_simp
          with_reducible rfl
        rotate_left
        · simp only [Act.put, List.setIfInBounds_toArray, List.set_cons_zero, List.set_cons_succ, i64_w, i32_w]
          rfl
        refine pure_ (i := 8) (N := some 136) (v := ?_) (a' := ?_) #[true, true, true, true, true, true, true, true, true, false, false, false, false, false, false, false, false, false, false, false, false, false, false, false, false, false, false, false, false, false, false, false, false, false, false] rfl rfl (by kernel_rfl) (fun _ _ _ h => h) (Or.inl ⟨by rfl, ?_⟩) ?_ ?_
        rotate_left
        · intro w'
          go_simp
          with_reducible rfl
        rotate_left
        · simp only [Act.put, List.setIfInBounds_toArray, List.set_cons_zero, List.set_cons_succ, i64_w, i32_w]
          rfl
        refine pure_ (i := 9) (N := some 137) (v := ?_) (a' := ?_) #[true, true, true, true, true, true, true, true, true, true, false, false, false, false, false, false, false, false, false, false, false, false, false, false, false, false, false, false, false, false, false, false, false, false, false] rfl rfl (by kernel_rfl) (fun _ _ _ h => h) (Or.inl ⟨by rfl, ?_⟩) ?_ ?_
        rotate_left
        · intro w'
          go_simp
          with_reducible rfl
        rotate_left
        · simp only [Act.put, List.setIfInBounds_toArray, List.set_cons_zero, List.set_cons_succ, i64_w, i32_w]
          rfl
        refine pure_ (i := 10) (N := some 138) (v := ?_) (a' := ?_) #[true, true, true, true, true, true, true, true, true, true, true, false, false, false, false, false, false, false, false, false, false, false, false, false, false, false, false, false, false, false, false, false, false, false, false] rfl rfl (by kernel_rfl) (fun _ _ _ h => h) (Or.inl ⟨by rfl, ?_⟩) ?_ ?_
        rotate_left
        · intro w'
          go_simp
          with_reducible rfl
        rotate_left
        · simp only [Act.put, List.setIfInBounds_toArray, List.set_cons_zero, List.set_cons_succ, i64_w, i32_w]
          rfl
        refine pure_ (i := 11) (N := some 139) (v := ?_) (a' := ?_) #[true, true, true, true, true, true, true, true, true, true, true, true, false, false, false, false, false, false, false, false, false, false, false, false, false, false, false, false, false, false, false, false, false, false, false] rfl rfl (by kernel_rfl) (fun _ _ _ h => h) (Or.inl ⟨by rfl, ?_⟩) ?_ ?_
        rotate_left
        · intro w'
          go_simp
          with_reducible rfl
        rotate_left
        · simp only [Act.put, List.setIfInBounds_toArray, List.set_cons_zero, List.set_cons_succ, i64_w, i32_w]
          rfl
        refine pure_ (i := 12) (N := some 140) (v := ?_) (a' := ?_) #[true, true, true, true, true, true, true, true, true, true, true, true, true, false, false, false, false, false, false, false, false, false, false, false, false, false, false, false, false, false, false, false, false, false, false] rfl rfl (by kernel_rfl) (fun _ _ _ h => h) (Or.inl ⟨by rfl, ?_⟩) ?_ ?_
        rotate_left
        · intro w'
          go_simp
          with_reducible rfl
        rotate_left
        · simp only [Act.put, List.setIfInBounds_toArray, List.set_cons_zero, List.set_cons_succ, i64_w, i32_w]
          rfl
        refine pure_ (i := 13) (N := some 141) (v := ?_) (a' := ?_) #[true, true, true, true, true, true, true, true, true, true, true, true, true, true, false, false, false, false, false, false, false, false, false, false, false, false, false, false, false, false, false, false, false, false, false] rfl rfl (by kernel_rfl) (fun _ _ _ h => h) (Or.inl ⟨by rfl, ?_⟩) ?_ ?_
        rotate_left
        · intro w'
          go_simp
          with_reducible rfl
        rotate_left
        · simp only [Act.put, List.setIfInBounds_toArray, List.set_cons_zero, List.set_cons_succ, i64_w, i32_w]
          rfl
        refine take_ (i := 14) (N := some 142) (v := ?_) (a' := ?_) #[true, true, true, true, true, true, true, true, true, true, true, true, true, true, true, false, false, false, false, false, false, false, false, false, false, false, false, false, false, false, false, false, false, false, false] rfl rfl (by kernel_rfl) (fun _ _ _ h => h) (Or.inl ⟨by rfl, ?_⟩) hHeld ?_ ?_
        rotate_left
        · rintro w' ⟨s0, s1, s2, s3⟩
          go_simp
          with_reducible rfl
        rotate_left
        · simp only [Act.put, List.setIfInBounds_toArray, List.set_cons_zero, List.set_cons_succ, i64_w, i32_w]
          rfl
        refine pure_ (i := 15) (N := some 143) (v := ?_) (a' := ?_) #[true, true, true, true, true, true, true, true, true, true, true, true, true, true, true, true, false, false, false, false, false, false, false, false, false, false, false, false, false, false, false, false, false, false, false] rfl rfl (by kernel_rfl) (fun _ _ _ h => h) (Or.inl ⟨by rfl, ?_⟩) ?_ ?_
        rotate_left
        · intro w'
          go_simp
          with_reducible rfl
        rotate_left
        · simp only [Act.put, List.setIfInBounds_toArray, List.set_cons_zero, List.set_cons_succ, i64_w, i32_w]
          rfl
        refine pure_ (i := 16) (N := some 144) (v := ?_) (a' := ?_) #[true, true, true, true, true, true, true, true, true, true, true, true, true, true, true, true, true, false, false, false, false, false, false, false, false, false, false, false, false, false, false, false, false, false, false] rfl rfl (by kernel_rfl) (fun _ _ _ h => h) (Or.inl ⟨by rfl, ?_⟩) ?_ ?_
        rotate_left
        · intro w'
          go_simp
          with_reducible rfl
        rotate_left
        · simp only [Act.put, List.setIfInBounds_toArray, List.set_cons_zero, List.set_cons_succ, i64_w, i32_w]
          rfl
        refine pure_ (i := 17) (N := some 145) (v := ?_) (a' := ?_) #[true, true, true, true, true, true, true, true, true, true, true, true, true, true, true, true, true, true, false, false, false, false, false, false, false, false, false, false, false, false, false, false, false, false, false] rfl rfl (by kernel_rfl) (fun _ _ _ h => h) (Or.inl ⟨by rfl, ?_⟩) ?_ ?_
        rotate_left
        · intro w'
          go_simp
          with_reducible rfl
        rotate_left
        · simp only [Act.put, List.setIfInBounds_toArray, List.set_cons_zero, List.set_cons_succ, i64_w, i32_w]
          rfl
        refine pure_ (i := 18) (N := some 146) (v := ?_) (a' := ?_) #[true, true, true, true, true, true, true, true, true, true, true, true, true, true, true, true, true, true, true, false, false, false, false, false, false, false, false, false, false, false, false, false, false, false, false] rfl rfl (by kernel_rfl) (fun _ _ _ h => h) (Or.inl ⟨by rfl, ?_⟩) ?_ ?_
        rotate_left
        · intro w'
          go_simp
          with_reducible rfl
        rotate_left
        · simp only [Act.put, List.setIfInBounds_toArray, List.set_cons_zero, List.set_cons_succ, i64_w, i32_w]
          rfl
        refine pure_ (i := 19) (N := some 147) (v := ?_) (a' := ?_) #[true, true, true, true, true, true, true, true, true, true, true, true, true, true, true, true, true, true, true, true, false, false, false, false, false, false, false, false, false, false, false, false, false, false, false] rfl rfl (by kernel_rfl) (fun _ _ _ h => h) (Or.inl ⟨by rfl, ?_⟩) ?_ ?_
        rotate_left
        · intro w'
          go_simp
          with_reducible rfl
        rotate_left
        · simp only [Act.put, List.setIfInBounds_toArray, List.set_cons_zero, List.set_cons_succ, i64_w, i32_w]
          rfl
        refine pure_ (i := 20) (N := some 148) (v := ?_) (a' := ?_) #[true, true, true, true, true, true, true, true, true, true, true, true, true, true, true, true, true, true, true, true, true, false, false, false, false, false, false, false, false, false, false, false, false, false, false] rfl rfl (by kernel_rfl) (fun _ _ _ h => h) (Or.inl ⟨by rfl, ?_⟩) ?_ ?_
        rotate_left
        · intro w'
          go_simp
          with_reducible rfl
        rotate_left
        · simp only [Act.put, List.setIfInBounds_toArray, List.set_cons_zero, List.set_cons_succ, i64_w, i32_w]
          rfl
        refine pure_ (i := 22) (N := some 150) (v := ?_) (a' := ?_) #[true, true, true, true, true, true, true, true, true, true, true, true, true, true, true, true, true, true, true, true, true, false, true, false, false, false, false, false, false, false, false, false, false, false, false] rfl rfl (by kernel_rfl) (fun _ _ _ h => h) (Or.inl ⟨by rfl, ?_⟩) ?_ ?_
        rotate_left
        · intro w'
          go_simp
          with_reducible rfl
        rotate_left
        · simp only [Act.put, List.setIfInBounds_toArray, List.set_cons_zero, List.set_cons_succ, i64_w, i32_w]
          rfl
        refine take_ (i := 21) (N := some 149) (v := ?_) (a' := ?_) #[true, true, true, true, true, true, true, true, true, true, true, true, true, true, true, true, true, true, true, true, true, true, true, false, false, false, false, false, false, false, false, false, false, false, false] rfl rfl (by kernel_rfl) (fun _ _ _ h => h) (Or.inl ⟨by rfl, ?_⟩) hHeld ?_ ?_
        rotate_left
        · rintro w' ⟨s0, s1, s2, s3⟩
          go_simp
          with_reducible rfl
        rotate_left
        · simp only [Act.put, List.setIfInBounds_toArray, List.set_cons_zero, List.set_cons_succ, i64_w, i32_w]
          rfl
        refine pure_ (i := 23) (N := some 151) (v := ?_) (a' := ?_) #[true, true, true, true, true, true, true, true, true, true, true, true, true, true, true, true, true, true, true, true, true, true, true, true, false, false, false, false, false, false, false, false, false, false, false] rfl rfl (by kernel_rfl) (fun _ _ _ h => h) (Or.inl ⟨by rfl, ?_⟩) ?_ ?_
        rotate_left
        · intro w'
          go_simp
          with_reducible rfl
        rotate_left
        · simp only [Act.put, List.setIfInBounds_toArray, List.set_cons_zero, List.set_cons_succ, i64_w, i32_w]
          rfl
        refine pure_ (i := 24) (N := some 152) (v := ?_) (a' := ?_) #[true, true, true, true, true, true, true, true, true, true, true, true, true, true, true, true, true, true, true, true, true, true, true, true, true, false, false, false, false, false, false, false, false, false, false] rfl rfl (by kernel_rfl) (fun _ _ _ h => h) (Or.inl ⟨by rfl, ?_⟩) ?_ ?_
        rotate_left
        · intro w'
          go_simp
          with_reducible rfl
        rotate_left
        · simp only [Act.put, List.setIfInBounds_toArray, List.set_cons_zero, List.set_cons_succ, i64_w, i32_w]
          rfl
        refine pure_ (i := 25) (N := some 153) (v := ?_) (a' := ?_) #[true, true, true, true, true, true, true, true, true, true, true, true, true, true, true, true, true, true, true, true, true, true, true, true, true, true, false, false, false, false, false, false, false, false, false] rfl rfl (by kernel_rfl) (fun _ _ _ h => h) (Or.inl ⟨by rfl, ?_⟩) ?_ ?_
        rotate_left
        · intro w'
          go_simp
          with_reducible rfl
        rotate_left
        · simp only [Act.put, List.setIfInBounds_toArray, List.set_cons_zero, List.set_cons_succ, i64_w, i32_w]
          rfl
        refine pure_ (i := 26) (N := some 154) (v := ?_) (a' := ?_) #[true, true, true, true, true, true, true, true, true, true, true, true, true, true, true, true, true, true, true, true, true, true, true, true, true, true, true, false, false, false, false, false, false, false, false] rfl rfl (by kernel_rfl) (fun _ _ _ h => h) (Or.inl ⟨by rfl, ?_⟩) ?_ ?_
        rotate_left
        · intro w'
          go_simp
          with_reducible rfl
        rotate_left
        · simp only [Act.put, List.setIfInBounds_toArray, List.set_cons_zero, List.set_cons_succ, i64_w, i32_w]
          rfl
        refine pure_ (i := 27) (N := some 155) (v := ?_) (a' := ?_) #[true, true, true, true, true, true, true, true, true, true, true, true, true, true, true, true, true, true, true, true, true, true, true, true, true, true, true, true, false, false, false, false, false, false, false] rfl rfl (by kernel_rfl) (fun _ _ _ h => h) (Or.inl ⟨by rfl, ?_⟩) ?_ ?_
        rotate_left
        · intro w'
          go_simp
          with_reducible rfl
        rotate_left
        · simp only [Act.put, List.setIfInBounds_toArray, List.set_cons_zero, List.set_cons_succ, i64_w, i32_w]
          rfl
        refine pure_ (i := 28) (N := some 156) (v := ?_) (a' := ?_) #[true, true, true, true, true, true, true, true, true, true, true, true, true, true, true, true, true, true, true, true, true, true, true, true, true, true, true, true, true, false, false, false, false, false, false] rfl rfl (by kernel_rfl) (fun _ _ _ h => h) (Or.inl ⟨by rfl, ?_⟩) ?_ ?_
        rotate_left
        · intro w'
          go_simp
          with_reducible rfl
        rotate_left
        · simp only [Act.put, List.setIfInBounds_toArray, List.set_cons_zero, List.set_cons_succ, i64_w, i32_w]
          rfl
        refine pure_ (i := 29) (N := some 157) (v := ?_) (a' := ?_) #[true, true, true, true, true, true, true, true, true, true, true, true, true, true, true, true, true, true, true, true, true, true, true, true, true, true, true, true, true, true, false, false, false, false, false] rfl rfl (by kernel_rfl) (fun _ _ _ h => h) (Or.inl ⟨by rfl, ?_⟩) ?_ ?_
        rotate_left
        · intro w'
          go_simp
          with_reducible rfl
        rotate_left
        · simp only [Act.put, List.setIfInBounds_toArray, List.set_cons_zero, List.set_cons_succ, i64_w, i32_w]
          rfl
        refine pure_ (i := 31) (N := some 159) (v := ?_) (a' := ?_) #[true, true, true, true, true, true, true, true, true, true, true, true, true, true, true, true, true, true, true, true, true, true, true, true, true, true, true, true, true, true, false, true, false, false, false] rfl rfl (by kernel_rfl) (fun _ _ _ h => h) (Or.inl ⟨by rfl, ?_⟩) ?_ ?_
        rotate_left
        · intro w'
          go_simp
          with_reducible rfl
        rotate_left
        · simp only [Act.put, List.setIfInBounds_toArray, List.set_cons_zero, List.set_cons_succ, i64_w, i32_w]
          rfl
        refine take_ (i := 30) (N := some 158) (v := ?_) (a' := ?_) #[true, true, true, true, true, true, true, true, true, true, true, true, true, true, true, true, true, true, true, true, true, true, true, true, true, true, true, true, true, true, true, true, false, false, false] rfl rfl (by kernel_rfl) (fun _ _ _ h => h) (Or.inl ⟨by rfl, ?_⟩) hHeld ?_ ?_
        rotate_left
        · rintro w' ⟨s0, s1, s2, s3⟩
          go_simp
          with_reducible rfl
        rotate_left
        · simp only [Act.put, List.setIfInBounds_toArray, List.set_cons_zero, List.set_cons_succ, i64_w, i32_w]
          rfl
        refine take_ (i := 32) (N := some 160) (v := ?_) (a' := ?_) #[true, true, true, true, true, true, true, true, true, true, true, true, true, true, true, true, true, true, true, true, true, true, true, true, true, true, true, true, true, true, true, true, true, false, false] rfl rfl (by kernel_rfl) (fun _ _ _ h => h) (Or.inl ⟨by rfl, ?_⟩) hHeld ?_ ?_
        rotate_left
        · rintro w' ⟨s0, s1, s2, s3⟩
          go_simp
          with_reducible rfl
        rotate_left
        · simp only [Act.put, List.setIfInBounds_toArray, List.set_cons_zero, List.set_cons_succ, i64_w, i32_w]
          rfl
        refine pure_ (i := 33) (N := some 161) (v := ?_) (a' := ?_) #[true, true, true, true, true, true, true, true, true, true, true, true, true, true, true, true, true, true, true, true, true, true, true, true, true, true, true, true, true, true, true, true, true, true, false] rfl rfl (by kernel_rfl) (fun _ _ _ h => h) (Or.inl ⟨by rfl, ?_⟩) ?_ ?_
        rotate_left
        · intro w'
          go_simp
          with_reducible rfl
        rotate_left
        · simp only [Act.put, List.setIfInBounds_toArray, List.set_cons_zero, List.set_cons_succ, i64_w, i32_w]
          rfl
        refine pure_ (i := 34) (N := some 162) (v := ?_) (a' := ?_) #[true, true, true, true, true, true, true, true, true, true, true, true, true, true, true, true, true, true, true, true, true, true, true, true, true, true, true, true, true, true, true, true, true, true, true] rfl rfl (by kernel_rfl) (fun _ _ _ h => h) (Or.inl ⟨by rfl, ?_⟩) ?_ ?_
        rotate_left
        · intro w'
          go_simp
          with_reducible rfl
        rotate_left
        · simp only [Act.put, List.setIfInBounds_toArray, List.set_cons_zero, List.set_cons_succ, i64_w, i32_w]
          rfl
        refine done_ (by kernel_rfl) ?_
        have X1 := Aside0.mk (blk_drew X.out)
        have HB1 := Aside0.mk (below_drew HB.out)
        have H11 := Aside0.mk (Kd.C_drew H1.out)
        clear X HB H1 y0 y4 y6 x0 x2 x4
        have X := X1
        have HB := HB1
        have H1 := H11
        clear X1 HB1 H11
        obtain ⟨x0, _, x2, _, x4, _, _⟩ := cellsS X.out
        go_wp2
        go_ret
        exact ⟨rfl, HB.out⟩
      | true =>
        have hdn : ((n : Int) == 0) = false := by
          have h5 := hnf rfl
          have h6 : (l.length : Int) = 4 := by simpa using hq4
          simpa using (show ¬ ((n : Int) = 0) by omega)
        clear hnf hn3
        go_wp2_with (first
          | (with_reducible refine load_S (.tmp 6) rfl rfl (p := ⟨w.heap.size, 0, none⟩) rfl (cells_box X.out) ?_)
          | (go_at_call 15; (with_reducible refine (begin_any x idle now l A c _ (Kd.C_below HR.out HB.out) HC.out HL.out a 0 HA.out).mono ?_); rintro e w1 ⟨v, rfl, ho, hb⟩; obtain ⟨A1, c1, rfl, hc1, hC1⟩ := ho; have HC1 := Aside0.mk hc1; have H1 := Aside0.mk hC1; have HB := Aside0.mk (below_step HB.out hb); have X := Aside0.mk (blk_below X.out hb); clear x0 x2 x4; obtain ⟨x0, _, x2, _, x4, _, _⟩ := cellsS X.out; rw [HOP.out] at x4; clear hb hc1 hC1)
          | (go_at_call 12; (with_reducible refine (find_any x.draw l A c _ (Kd.C_below HR.out HB.out)).mono ?_); rintro e w1 ⟨he_, hb⟩; rw [HF.out] at he_; subst he_; have H1 := Aside0.mk (Kd.C_below H1.out hb); have HB := Aside0.mk (below_step HB.out hb); have X := Aside0.mk (blk_below X.out hb); clear x0 x2 x4; obtain ⟨x0, _, x2, _, x4, _, _⟩ := cellsS X.out; rw [HOP.out] at x4; clear hb)
          | (go_at_call 12; (with_reducible refine (find_any x.draw a A1 c1 _ H1.out).mono ?_); rintro e w1 ⟨he_, hb⟩; rw [HF2.out] at he_; subst he_; have H1 := Aside0.mk (Kd.C_below H1.out hb); have HB := Aside0.mk (below_step HB.out hb); have X := Aside0.mk (blk_below X.out hb); clear x0 x2 x4; obtain ⟨x0, _, x2, _, x4, _, _⟩ := cellsS X.out; rw [HOP.out] at x4; clear hb))
        obtain ⟨aa, ea, _, y0, _, _, _, y4, _, y6⟩ := at_S H1.out m (by have := HLA1.out; omega) { x with last := now } HAM.out
        subst ea
        rw [show ({ x with last := now } : Ses).isOpen = false from HOP.out] at y4
        have hmi : (m : Int) < (a.length : Int) := by have := HLA1.out; omega
        refine start_ (n := 35) (S := fun w' => w'.cell? ⟨(aa.add (m * 39)).block, (aa.add (m * 39)).off + 36, none⟩ = some (.bool false) ∧ w'.cell? ⟨(aa.add (m * 39)).block, (aa.add (m * 39)).off + 38, none⟩ = some (.int .i64 now) ∧ w'.cell? (aa.add (m * 39)) = some (.int .i64 x.user) ∧ w'.cell? ⟨w.heap.size, 0, none⟩ = some (.int .i64 x.user)) (ds := []) #[false, false, false, false, false, false, false, false, false, false, false, false, false, false, false, false, false, false, false, false, false, false, false, false, false, false, false, false, false, false, false, false, false, false, false] (by kernel_rfl) rfl rfl ⟨y4, y6, y0, x0⟩ (fun hHeld => ?_)
        refine pure_ (i := 0) (N := some 128) (v := ?_) (a' := ?_) #[true, false, false, false, false, false, false, false, false, false, false, false, false, false, false, false, false, false, false, false, false, false, false, false, false, false, false, false, false, false, false, false, false, false, false] rfl rfl (by kernel_rfl) (fun _ _ _ h => h) (Or.inl ⟨by rfl, ?_⟩) ?_ ?_
        rotate_left
        · intro w'
          go_simp
          with_reducible rfl
        rotate_left
        · simp only [Act.put, List.setIfInBounds_toArray, List.set_cons_zero, List.set_cons_succ, i64_w, i32_w]
          rfl
        refine pure_ (i := 1) (N := some 129) (v := ?_) (a' := ?_) #[true, true, false, false, false, false, false, false, false, false, false, false, false, false, false, false, false, false, false, false, false, false, false, false, false, false, false, false, false, false, false, false, false, false, false] rfl rfl (by kernel_rfl) (fun _ _ _ h => h) (Or.inl ⟨by rfl, ?_⟩) ?_ ?_
        rotate_left
        · intro w'
          go_simp
          with_reducible rfl
        rotate_left
        · simp only [Act.put, List.setIfInBounds_toArray, List.set_cons_zero, List.set_cons_succ, i64_w, i32_w]
          rfl
        refine pure_ (i := 2) (N := some 130) (v := ?_) (a' := ?_) #[true, true, true, false, false, false, false, false, false, false, false, false, false, false, false, false, false, false, false, false, false, false, false, false, false, false, false, false, false, false, false, false, false, false, false] rfl rfl (by kernel_rfl) (fun _ _ _ h => h) (Or.inl ⟨by rfl, ?_⟩) ?_ ?_
        rotate_left
        · intro w'
          go_simp
          with_reducible rfl
        rotate_left
        · simp only [Act.put, List.setIfInBounds_toArray, List.set_cons_zero, List.set_cons_succ, i64_w, i32_w]
          rfl
        refine pure_ (i := 3) (N := some 131) (v := ?_) (a' := ?_) #[true, true, true, true, false, false, false, false, false, false, false, false, false, false, false, false, false, false, false, false, false, false, false, false, false, false, false, false, false, false, false, false, false, false, false] rfl rfl (by kernel_rfl) (fun _ _ _ h => h) (Or.inl ⟨by rfl, ?_⟩) ?_ ?_
        rotate_left
        · intro w'
          go_simp
          with_reducible rfl
        rotate_left
        · simp only [Act.put, List.setIfInBounds_toArray, List.set_cons_zero, List.set_cons_succ, i64_w, i32_w]
          rfl
        refine pure_ (i := 4) (N := some 132) (v := ?_) (a' := ?_) #[true, true, true, true, true, false, false, false, false, false, false, false, false, false, false, false, false, false, false, false, false, false, false, false, false, false, false, false, false, false, false, false, false, false, false] rfl rfl (by kernel_rfl) (fun _ _ _ h => h) (Or.inl ⟨by rfl, ?_⟩) ?_ ?_
        rotate_left
        · intro w'
          go_simp
          with_reducible rfl
        rotate_left
        · simp only [Act.put, List.setIfInBounds_toArray, List.set_cons_zero, List.set_cons_succ, i64_w, i32_w]
          rfl
        refine pure_ (i := 5) (N := some 133) (v := ?_) (a' := ?_) #[true, true, true, true, true, true, false, false, false, false, false, false, false, false, false, false, false, false, false, false, false, false, false, false, false, false, false, false, false, false, false, false, false, false, false] rfl rfl (by kernel_rfl) (fun _ _ _ h => h) (Or.inl ⟨by rfl, ?_⟩) ?_ ?_
        rotate_left
        · intro w'
          go_simp
          with_reducible rfl
        rotate_left
        · simp only [Act.put, List.setIfInBounds_toArray, List.set_cons_zero, List.set_cons_succ, i64_w, i32_w]
          rfl
        refine pure_ (i := 6) (N := some 134) (v := ?_) (a' := ?_) #[true, true, true, true, true, true, true, false, false, false, false, false, false, false, false, false, false, false, false, false, false, false, false, false, false, false, false, false, false, false, false, false, false, false, false] rfl rfl (by kernel_rfl) (fun _ _ _ h => h) (Or.inl ⟨by rfl, ?_⟩) ?_ ?_
        rotate_left
        · intro w'
          go_simp
          with_reducible rfl
        rotate_left
        · simp only [Act.put, List.setIfInBounds_toArray, List.set_cons_zero, List.set_cons_succ, i64_w, i32_w]
          rfl
        refine pure_ (i := 7) (N := some 135) (v := ?_) (a' := ?_) #[true, true, true, true, true, true, true, true, false, false, false, false, false, false, false, false, false, false, false, false, false, false, false, false, false, false, false, false, false, false, false, false, false, false, false] rfl rfl (by kernel_rfl) (fun _ _ _ h => h) (Or.inl ⟨by rfl, ?_⟩) ?_ ?_
        rotate_left
        · intro w'
          go_simp
          with_reducible rfl
        rotate_left
        · simp only [Act.put, List.setIfInBounds_toArray, List.set_cons_zero, List.set_cons_succ, i64_w, i32_w]
          rfl
        refine pure_ (i := 8) (N := some 136) (v := ?_) (a' := ?_) #[true, true, true, true, true, true, true, true, true, false, false, false, false, false, false, false, false, false, false, false, false, false, false, false, false, false, false, false, false, false, false, false, false, false, false] rfl rfl (by kernel_rfl) (fun _ _ _ h => h) (Or.inl ⟨by rfl, ?_⟩) ?_ ?_
        rotate_left
        · intro w'
          go_simp
          with_reducible rfl
        rotate_left
        · simp only [Act.put, List.setIfInBounds_toArray, List.set_cons_zero, List.set_cons_succ, i64_w, i32_w]
          rfl
        refine pure_ (i := 9) (N := some 137) (v := ?_) (a' := ?_) #[true, true, true, true, true, true, true, true, true, true, false, false, false, false, false, false, false, false, false, false, false, false, false, false, false, false, false, false, false, false, false, false, false, false, false] rfl rfl (by kernel_rfl) (fun _ _ _ h => h) (Or.inl ⟨by rfl, ?_⟩) ?_ ?_
        rotate_left
        · intro w'
          go_simp
          with_reducible rfl
        rotate_left
        · simp only [Act.put, List.setIfInBounds_toArray, List.set_cons_zero, List.set_cons_succ, i64_w, i32_w]
          rfl
        refine pure_ (i := 10) (N := some 138) (v := ?_) (a' := ?_) #[true, true, true, true, true, true, true, true, true, true, true, false, false, false, false, false, false, false, false, false, false, false, false, false, false, false, false, false, false, false, false, false, false, false, false] rfl rfl (by kernel_rfl) (fun _ _ _ h => h) (Or.inl ⟨by rfl, ?_⟩) ?_ ?_
        rotate_left
        · intro w'
          go_simp
          with_reducible rfl
        rotate_left
        · simp only [Act.put, List.setIfInBounds_toArray, List.set_cons_zero, List.set_cons_succ, i64_w, i32_w]
          rfl
        refine pure_ (i := 11) (N := some 139) (v := ?_) (a' := ?_) #[true, true, true, true, true, true, true, true, true, true, true, true, false, false, false, false, false, false, false, false, false, false, false, false, false, false, false, false, false, false, false, false, false, false, false] rfl rfl (by kernel_rfl) (fun _ _ _ h => h) (Or.inl ⟨by rfl, ?_⟩) ?_ ?_
        rotate_left
        · intro w'
          go_simp
          with_reducible rfl
        rotate_left
        · simp only [Act.put, List.setIfInBounds_toArray, List.set_cons_zero, List.set_cons_succ, i64_w, i32_w]
          rfl
        refine pure_ (i := 12) (N := some 140) (v := ?_) (a' := ?_) #[true, true, true, true, true, true, true, true, true, true, true, true, true, false, false, false, false, false, false, false, false, false, false, false, false, false, false, false, false, false, false, false, false, false, false] rfl rfl (by kernel_rfl) (fun _ _ _ h => h) (Or.inl ⟨by rfl, ?_⟩) ?_ ?_
        rotate_left
        · intro w'
          go_simp
          with_reducible rfl
        rotate_left
        · simp only [Act.put, List.setIfInBounds_toArray, List.set_cons_zero, List.set_cons_succ, i64_w, i32_w]
          rfl
        refine pure_ (i := 13) (N := some 141) (v := ?_) (a' := ?_) #[true, true, true, true, true, true, true, true, true, true, true, true, true, true, false, false, false, false, false, false, false, false, false, false, false, false, false, false, false, false, false, false, false, false, false] rfl rfl (by kernel_rfl) (fun _ _ _ h => h) (Or.inl ⟨by rfl, ?_⟩) ?_ ?_
        rotate_left
        · intro w'
          go_simp
          with_reducible rfl
        rotate_left
        · simp only [Act.put, List.setIfInBounds_toArray, List.set_cons_zero, List.set_cons_succ, i64_w, i32_w]
          rfl
        refine take_ (i := 14) (N := some 142) (v := ?_) (a' := ?_) #[true, true, true, true, true, true, true, true, true, true, true, true, true, true, true, false, false, false, false, false, false, false, false, false, false, false, false, false, false, false, false, false, false, false, false] rfl rfl (by kernel_rfl) (fun _ _ _ h => h) (Or.inl ⟨by rfl, ?_⟩) hHeld ?_ ?_
        rotate_left
        · rintro w' ⟨s0, s1, s2, s3⟩
          go_simp
          with_reducible rfl
        rotate_left
        · simp only [Act.put, List.setIfInBounds_toArray, List.set_cons_zero, List.set_cons_succ, i64_w, i32_w]
          rfl
        refine pure_ (i := 15) (N := some 143) (v := ?_) (a' := ?_) #[true, true, true, true, true, true, true, true, true, true, true, true, true, true, true, true, false, false, false, false, false, false, false, false, false, false, false, false, false, false, false, false, false, false, false] rfl rfl (by kernel_rfl) (fun _ _ _ h => h) (Or.inl ⟨by rfl, ?_⟩) ?_ ?_
        rotate_left
        · intro w'
          go_simp
          with_reducible rfl
        rotate_left
        · simp only [Act.put, List.setIfInBounds_toArray, List.set_cons_zero, List.set_cons_succ, i64_w, i32_w]
          rfl
        refine pure_ (i := 16) (N := some 144) (v := ?_) (a' := ?_) #[true, true, true, true, true, true, true, true, true, true, true, true, true, true, true, true, true, false, false, false, false, false, false, false, false, false, false, false, false, false, false, false, false, false, false] rfl rfl (by kernel_rfl) (fun _ _ _ h => h) (Or.inl ⟨by rfl, ?_⟩) ?_ ?_
        rotate_left
        · intro w'
          go_simp
          with_reducible rfl
        rotate_left
        · simp only [Act.put, List.setIfInBounds_toArray, List.set_cons_zero, List.set_cons_succ, i64_w, i32_w]
          rfl
        refine pure_ (i := 17) (N := some 145) (v := ?_) (a' := ?_) #[true, true, true, true, true, true, true, true, true, true, true, true, true, true, true, true, true, true, false, false, false, false, false, false, false, false, false, false, false, false, false, false, false, false, false] rfl rfl (by kernel_rfl) (fun _ _ _ h => h) (Or.inl ⟨by rfl, ?_⟩) ?_ ?_
        rotate_left
        · intro w'
          go_simp
          with_reducible rfl
        rotate_left
        · simp only [Act.put, List.setIfInBounds_toArray, List.set_cons_zero, List.set_cons_succ, i64_w, i32_w]
          rfl
        refine pure_ (i := 18) (N := some 146) (v := ?_) (a' := ?_) #[true, true, true, true, true, true, true, true, true, true, true, true, true, true, true, true, true, true, true, false, false, false, false, false, false, false, false, false, false, false, false, false, false, false, false] rfl rfl (by kernel_rfl) (fun _ _ _ h => h) (Or.inl ⟨by rfl, ?_⟩) ?_ ?_
        rotate_left
        · intro w'
          go_simp
          with_reducible rfl
        rotate_left
        · simp only [Act.put, List.setIfInBounds_toArray, List.set_cons_zero, List.set_cons_succ, i64_w, i32_w]
          rfl
        refine pure_ (i := 19) (N := some 147) (v := ?_) (a' := ?_) #[true, true, true, true, true, true, true, true, true, true, true, true, true, true, true, true, true, true, true, true, false, false, false, false, false, false, false, false, false, false, false, false, false, false, false] rfl rfl (by kernel_rfl) (fun _ _ _ h => h) (Or.inl ⟨by rfl, ?_⟩) ?_ ?_
        rotate_left
        · intro w'
          go_simp
          with_reducible rfl
        rotate_left
        · simp only [Act.put, List.setIfInBounds_toArray, List.set_cons_zero, List.set_cons_succ, i64_w, i32_w]
          rfl
        refine pure_ (i := 20) (N := some 148) (v := ?_) (a' := ?_) #[true, true, true, true, true, true, true, true, true, true, true, true, true, true, true, true, true, true, true, true, true, false, false, false, false, false, false, false, false, false, false, false, false, false, false] rfl rfl (by kernel_rfl) (fun _ _ _ h => h) (Or.inl ⟨by rfl, ?_⟩) ?_ ?_
        rotate_left
        · intro w'
          go_simp
          with_reducible rfl
        rotate_left
        · simp only [Act.put, List.setIfInBounds_toArray, List.set_cons_zero, List.set_cons_succ, i64_w, i32_w]
          rfl
        refine pure_ (i := 22) (N := some 150) (v := ?_) (a' := ?_) #[true, true, true, true, true, true, true, true, true, true, true, true, true, true, true, true, true, true, true, true, true, false, true, false, false, false, false, false, false, false, false, false, false, false, false] rfl rfl (by kernel_rfl) (fun _ _ _ h => h) (Or.inl ⟨by rfl, ?_⟩) ?_ ?_
        rotate_left
        · intro w'
          go_simp
          with_reducible rfl
        rotate_left
        · simp only [Act.put, List.setIfInBounds_toArray, List.set_cons_zero, List.set_cons_succ, i64_w, i32_w]
          rfl
        refine take_ (i := 21) (N := some 149) (v := ?_) (a' := ?_) #[true, true, true, true, true, true, true, true, true, true, true, true, true, true, true, true, true, true, true, true, true, true, true, false, false, false, false, false, false, false, false, false, false, false, false] rfl rfl (by kernel_rfl) (fun _ _ _ h => h) (Or.inl ⟨by rfl, ?_⟩) hHeld ?_ ?_
        rotate_left
        · rintro w' ⟨s0, s1, s2, s3⟩
          go_simp
          with_reducible rfl
        rotate_left
        · simp only [Act.put, List.setIfInBounds_toArray, List.set_cons_zero, List.set_cons_succ, i64_w, i32_w]
          rfl
        refine pure_ (i := 23) (N := some 151) (v := ?_) (a' := ?_) #[true, true, true, true, true, true, true, true, true, true, true, true, true, true, true, true, true, true, true, true, true, true, true, true, false, false, false, false, false, false, false, false, false, false, false] rfl rfl (by kernel_rfl) (fun _ _ _ h => h) (Or.inl ⟨by rfl, ?_⟩) ?_ ?_
        rotate_left
        · intro w'
          go_simp
          with_reducible rfl
        rotate_left
        · simp only [Act.put, List.setIfInBounds_toArray, List.set_cons_zero, List.set_cons_succ, i64_w, i32_w]
          rfl
        refine pure_ (i := 24) (N := some 152) (v := ?_) (a' := ?_) #[true, true, true, true, true, true, true, true, true, true, true, true, true, true, true, true, true, true, true, true, true, true, true, true, true, false, false, false, false, false, false, false, false, false, false] rfl rfl (by kernel_rfl) (fun _ _ _ h => h) (Or.inl ⟨by rfl, ?_⟩) ?_ ?_
        rotate_left
        · intro w'
          go_simp
          with_reducible rfl
        rotate_left
        · simp only [Act.put, List.setIfInBounds_toArray, List.set_cons_zero, List.set_cons_succ, i64_w, i32_w]
          rfl
        refine pure_ (i := 25) (N := some 153) (v := ?_) (a' := ?_) #[true, true, true, true, true, true, true, true, true, true, true, true, true, true, true, true, true, true, true, true, true, true, true, true, true, true, false, false, false, false, false, false, false, false, false] rfl rfl (by kernel_rfl) (fun _ _ _ h => h) (Or.inl ⟨by rfl, ?_⟩) ?_ ?_
        rotate_left
        · intro w'
          go_simp
          with_reducible rfl
        rotate_left
        · simp only [Act.put, List.setIfInBounds_toArray, List.set_cons_zero, List.set_cons_succ, i64_w, i32_w]
          rfl
        refine pure_ (i := 26) (N := some 154) (v := ?_) (a' := ?_) #[true, true, true, true, true, true, true, true, true, true, true, true, true, true, true, true, true, true, true, true, true, true, true, true, true, true, true, false, false, false, false, false, false, false, false] rfl rfl (by kernel_rfl) (fun _ _ _ h => h) (Or.inl ⟨by rfl, ?_⟩) ?_ ?_
        rotate_left
        · intro w'
          go_simp
          with_reducible rfl
        rotate_left
        · simp only [Act.put, List.setIfInBounds_toArray, List.set_cons_zero, List.set_cons_succ, i64_w, i32_w]
          rfl
        refine pure_ (i := 27) (N := some 155) (v := ?_) (a' := ?_) #[true, true, true, true, true, true, true, true, true, true, true, true, true, true, true, true, true, true, true, true, true, true, true, true, true, true, true, true, false, false, false, false, false, false, false] rfl rfl (by kernel_rfl) (fun _ _ _ h => h) (Or.inl ⟨by rfl, ?_⟩) ?_ ?_
        rotate_left
        · intro w'
          go_simp
          with_reducible rfl
        rotate_left
        · simp only [Act.put, List.setIfInBounds_toArray, List.set_cons_zero, List.set_cons_succ, i64_w, i32_w]
          rfl
        refine pure_ (i := 28) (N := some 156) (v := ?_) (a' := ?_) #[true, true, true, true, true, true, true, true, true, true, true, true, true, true, true, true, true, true, true, true, true, true, true, true, true, true, true, true, true, false, false, false, false, false, false] rfl rfl (by kernel_rfl) (fun _ _ _ h => h) (Or.inl ⟨by rfl, ?_⟩) ?_ ?_
        rotate_left
        · intro w'
          go_simp
          with_reducible rfl
        rotate_left
        · simp only [Act.put, List.setIfInBounds_toArray, List.set_cons_zero, List.set_cons_succ, i64_w, i32_w]
          rfl
        refine pure_ (i := 29) (N := some 157) (v := ?_) (a' := ?_) #[true, true, true, true, true, true, true, true, true, true, true, true, true, true, true, true, true, true, true, true, true, true, true, true, true, true, true, true, true, true, false, false, false, false, false] rfl rfl (by kernel_rfl) (fun _ _ _ h => h) (Or.inl ⟨by rfl, ?_⟩) ?_ ?_
        rotate_left
        · intro w'
          go_simp
          with_reducible rfl
        rotate_left
        · simp only [Act.put, List.setIfInBounds_toArray, List.set_cons_zero, List.set_cons_succ, i64_w, i32_w]
          rfl
        refine pure_ (i := 31) (N := some 159) (v := ?_) (a' := ?_) #[true, true, true, true, true, true, true, true, true, true, true, true, true, true, true, true, true, true, true, true, true, true, true, true, true, true, true, true, true, true, false, true, false, false, false] rfl rfl (by kernel_rfl) (fun _ _ _ h => h) (Or.inl ⟨by rfl, ?_⟩) ?_ ?_
        rotate_left
        · intro w'
          go_simp
          with_reducible rfl
        rotate_left
        · simp only [Act.put, List.setIfInBounds_toArray, List.set_cons_zero, List.set_cons_succ, i64_w, i32_w]
          rfl
        refine take_ (i := 30) (N := some 158) (v := ?_) (a' := ?_) #[true, true, true, true, true, true, true, true, true, true, true, true, true, true, true, true, true, true, true, true, true, true, true, true, true, true, true, true, true, true, true, true, false, false, false] rfl rfl (by kernel_rfl) (fun _ _ _ h => h) (Or.inl ⟨by rfl, ?_⟩) hHeld ?_ ?_
        rotate_left
        · rintro w' ⟨s0, s1, s2, s3⟩
          go_simp
          with_reducible rfl
        rotate_left
        · simp only [Act.put, List.setIfInBounds_toArray, List.set_cons_zero, List.set_cons_succ, i64_w, i32_w]
          rfl
        refine take_ (i := 32) (N := some 160) (v := ?_) (a' := ?_) #[true, true, true, true, true, true, true, true, true, true, true, true, true, true, true, true, true, true, true, true, true, true, true, true, true, true, true, true, true, true, true, true, true, false, false] rfl rfl (by kernel_rfl) (fun _ _ _ h => h) (Or.inl ⟨by rfl, ?_⟩) hHeld ?_ ?_
        rotate_left
        · rintro w' ⟨s0, s1, s2, s3⟩
          go_simp
          with_reducible rfl
        rotate_left
        · simp only [Act.put, List.setIfInBounds_toArray, List.set_cons_zero, List.set_cons_succ, i64_w, i32_w]
          rfl
        refine pure_ (i := 33) (N := some 161) (v := ?_) (a' := ?_) #[true, true, true, true, true, true, true, true, true, true, true, true, true, true, true, true, true, true, true, true, true, true, true, true, true, true, true, true, true, true, true, true, true, true, false] rfl rfl (by kernel_rfl) (fun _ _ _ h => h) (Or.inl ⟨by rfl, ?_⟩) ?_ ?_
        rotate_left
        · intro w'
          go_simp
          with_reducible rfl
        rotate_left
        · simp only [Act.put, List.setIfInBounds_toArray, List.set_cons_zero, List.set_cons_succ, i64_w, i32_w]
          rfl
        refine pure_ (i := 34) (N := some 162) (v := ?_) (a' := ?_) #[true, true, true, true, true, true, true, true, true, true, true, true, true, true, true, true, true, true, true, true, true, true, true, true, true, true, true, true, true, true, true, true, true, true, true] rfl rfl (by kernel_rfl) (fun _ _ _ h => h) (Or.inl ⟨by rfl, ?_⟩) ?_ ?_
        rotate_left
        · intro w'
          go_simp
          with_reducible rfl
        rotate_left
        · simp only [Act.put, List.setIfInBounds_toArray, List.set_cons_zero, List.set_cons_succ, i64_w, i32_w]
          rfl
        refine done_ (by kernel_rfl) ?_
        have X1 := Aside0.mk (blk_drew X.out)
        have HB1 := Aside0.mk (below_drew HB.out)
        have H11 := Aside0.mk (Kd.C_drew H1.out)
        clear X HB H1 y0 y4 y6 x0 x2 x4
        have X := X1
        have HB := HB1
        have H1 := H11
        clear X1 HB1 H11
        obtain ⟨x0, _, x2, _, x4, _, _⟩ := cellsS X.out
        go_wp2
        go_ret
        exact ⟨rfl, HB.out⟩
set_option maxHeartbeats 4000000 in
set_option maxRecDepth 100000 in
theorem room_z3 (l : List Ses) (A : Option Addr) (c : Nat) (x : Ses) (idle now i : Int) (w : World) (hr : kS.C w A l.length l) (hc : l.length ≤ c) (hfew : decide (l.length ≤ 8) = true) (hm : mayS l = true) (hm1 : mayS [x] = true) (hop : x.isOpen = false) (h : 1 ≤ idle) (h2 : idle ≤ 1048576) (h3 : 0 ≤ now) (h4 : now ≤ 1073741824) (hl : l.length < 1000000) (a : List Ses) (fd : Int) (ha : beginS l x idle now = (a, 0)) (hf : findS l x.draw = fd) (h0 : fd < 0) (m : Nat) (hla1 : a.length = m + 1) (hm2 : (m : Int) ≤ 1000000) (ham : a[m]? = some { x with last := now }) (hf2 : findS a x.draw = m) (q4 : Bool) (hq4 : ((l.length : Int) == 4) = q4) (hnf : q4 = true → (awakeS l idle now).length ≠ 4) (hi : 0 ≤ i) (hi2 : i < (l.length : Int)) (y : Ses) (hy : l[i.toNat]? = some y) (hla : lateB y idle now = true) :
    Calls Try.prog 5 #[.slice A l.length c, .agg (sca x), .int .i64 idle, .int .i64 now, .int .i64 i] w fun e w' => e = .returned (.bool true) ∧ Below w.heap.size w w' := by
  have HR := Aside0.mk hr
  have HC := Aside0.mk hc
  clear hr hc
  have HFEW := Aside0.mk hfew
  clear hfew
  have HM := Aside0.mk hm
  have HM1 := Aside0.mk hm1
  have HOP := Aside0.mk hop
  clear hm hm1 hop
  have HL := Aside0.mk hl
  have HA := Aside0.mk ha
  have HF := Aside0.mk hf
  clear hl ha hf
  go_enter Try.func5, Try.ntmps5
  go_wp2_with (first
    | (go_at_call 9; (with_reducible refine (awake_any _).mono ?_); rintro e w1 ⟨rfl, hb⟩; have X := Aside0.mk (blk_below (blk_new w (.cells (sca x) 35)) hb); have HB := Aside0.mk (below_step (below_box w x) hb); obtain ⟨x0, _, x2, _, x4, _, _⟩ := cellsS X.out; rw [HOP.out] at x4; clear hb)
    | (go_at_call 10; (with_reducible refine (few_any l A c _).mono ?_); rintro e w1 ⟨he_, rfl⟩; rw [HFEW.out] at he_; subst he_)
    | (go_at_call 13; (with_reducible refine (mayL_any l A c _ (Kd.C_below HR.out HB.out) HC.out).mono ?_); rintro e w1 ⟨he_, hb⟩; rw [HM.out] at he_; subst he_; have HB := Aside0.mk (below_step HB.out hb); have X := Aside0.mk (blk_below X.out hb); clear x0 x2 x4; obtain ⟨x0, _, x2, _, x4, _, _⟩ := cellsS X.out; rw [HOP.out] at x4; clear hb)
    | ((with_reducible refine gate_load 35 (.tmp 6) rfl ?_); refine load_Sw (.tmp 6) rfl (by rfl) (p := ⟨w.heap.size, 0, none⟩) rfl (cells_box X.out) ?_)
    | ((with_reducible refine gate_build (.tmp 35) rfl ?_); refine gate_guard (by rfl) ?_; dsimp only; refine Kd.event_run rfl (exec_buildS (.tmp 35) rfl rfl) ?_; have HROW := Aside0.mk (row_one w1 x); have X := Aside0.mk (blk_alloc X.out (.cells (sca x) 35)); have HB := Aside0.mk (below_alloc HB.out (.cells (sca x) 35)); clear x0 x2 x4; obtain ⟨x0, _, x2, _, x4, _, _⟩ := cellsS X.out; rw [HOP.out] at x4)
    | (go_at_call 13; (with_reducible refine (may_1 x _ 1 _ HROW.out (Nat.le_refl _)).mono ?_); rintro e w1 ⟨he_, hb⟩; rw [HM1.out] at he_; subst he_; have HB := Aside0.mk (below_step HB.out hb); have X := Aside0.mk (blk_below X.out hb); clear x0 x2 x4; obtain ⟨x0, _, x2, _, x4, _, _⟩ := cellsS X.out; rw [HOP.out] at x4; clear hb))
  go_loopw [13, 14] (fun v13 v14 wr => ∃ j : Nat, j ≤ l.length ∧ v13 = .int .i64 (lateN (l.take j) idle now) ∧ v14 = .int .i64 j ∧ Aside0 (wr.heap[w.heap.size]? = some (.cells (sca x) 35 (0, 0))) ∧ Aside0 (Below w.heap.size w wr)) (fun _ v14 _ => l.length - (intOf v14).toNat)
  case atStart => exact ⟨0, by omega, rfl, rfl, X, HB⟩
  case round =>
    clear X HB x0 x2 x4 HROW
    obtain ⟨j, hj, rfl, rfl, X, HB⟩ := hrel
    obtain ⟨wo, rfl⟩ : ∃ wo : World, wo = wr := ⟨_, rfl⟩
    obtain ⟨x0, _, x2, _, x4, _, _⟩ := cellsS X.out
    rw [HOP.out] at x4
    have hn1 := lateN_le l idle now j
    have hn2 : l.length ≤ 1000000 := by have := HL.out; omega
    by_cases hlt : j < l.length
    · obtain ⟨y, hy⟩ : ∃ y, l[j]? = some y := ⟨_, List.getElem?_eq_getElem hlt⟩
      obtain ⟨ad, e0, hall⟩ := all_S HR.out hlt hy
      subst e0
      have HX := Aside0.mk hall
      have HY := Aside0.mk hy
      clear hall hy
      cases hla : lateB y idle now with
      | true =>
        have HLA := Aside0.mk hla
        have HN := Aside0.mk (lateN_yes HY.out hla)
        clear hla
        generalize lateN (l.take j) idle now = n at *
        go_wp2_with (first
          | (with_reducible refine load_S (.tmp 69) rfl rfl (p := ad.add (j * 39)) rfl (HX.out _ HB.out) ?_)
          | (go_at_call 14; (with_reducible refine (late_any y idle now _).mono ?_); rintro e w1 ⟨he_, hb⟩; rw [HLA.out] at he_; subst he_; have HB := Aside0.mk (below_step HB.out hb); have X := Aside0.mk (blk_below X.out hb); clear x0 x2 x4; obtain ⟨x0, _, x2, _, x4, _, _⟩ := cellsS X.out; rw [HOP.out] at x4; clear hb))
        go_roundw
        case rel => exact ⟨j + 1, by omega, by rw [HN.out]; go_num, by go_num, X, HB⟩
        case measure => simp [intOf]; omega
      | false =>
        have HLA := Aside0.mk hla
        have HN := Aside0.mk (lateN_no HY.out hla)
        clear hla
        generalize lateN (l.take j) idle now = n at *
        go_wp2_with (first
          | (with_reducible refine load_S (.tmp 69) rfl rfl (p := ad.add (j * 39)) rfl (HX.out _ HB.out) ?_)
          | (go_at_call 14; (with_reducible refine (late_any y idle now _).mono ?_); rintro e w1 ⟨he_, hb⟩; rw [HLA.out] at he_; subst he_; have HB := Aside0.mk (below_step HB.out hb); have X := Aside0.mk (blk_below X.out hb); clear x0 x2 x4; obtain ⟨x0, _, x2, _, x4, _, _⟩ := cellsS X.out; rw [HOP.out] at x4; clear hb))
        go_roundw
        case rel => exact ⟨j + 1, by omega, by rw [HN.out], by go_num, X, HB⟩
        case measure => simp [intOf]; omega
    · obtain rfl : j = l.length := by omega
      rw [List.take_length] at hn1
      simp only [List.take_length]
      have hn3 := lateN_awake l idle now
      obtain ⟨n, hn⟩ : ∃ n, lateN l idle now = n := ⟨_, rfl⟩
      rw [hn] at hn1 hn3
      simp only [hn]
      clear hn
      have hd : decide (0 ≤ fd) = false := decide_eq_false (by omega)
      have HLA1 := Aside0.mk hla1
      have HAM := Aside0.mk ham
      have HF2 := Aside0.mk hf2
      have hal : (a.length : Int) - 1 = m := by omega
      have hm0 : decide ((m : Int) < 0) = false := by simp
      have hw4 : Go.RowKit.wrap64 (m : Int) = (m : Int) := by unfold Go.RowKit.wrap64; omega
      have HY := Aside0.mk hy
      have HLA := Aside0.mk hla
      clear hy hla
      clear hla1 ham hf2
      cases q4 with
      | false =>
        clear hnf hn3
        go_wp2_with (first
          | (with_reducible refine load_S (.tmp 6) rfl rfl (p := ⟨w.heap.size, 0, none⟩) rfl (cells_box X.out) ?_)
          | (go_at_call 15; (with_reducible refine (begin_any x idle now l A c _ (Kd.C_below HR.out HB.out) HC.out HL.out a 0 HA.out).mono ?_); rintro e w1 ⟨v, rfl, ho, hb⟩; obtain ⟨A1, c1, rfl, hc1, hC1⟩ := ho; have HC1 := Aside0.mk hc1; have H1 := Aside0.mk hC1; have HB := Aside0.mk (below_step HB.out hb); have X := Aside0.mk (blk_below X.out hb); clear x0 x2 x4; obtain ⟨x0, _, x2, _, x4, _, _⟩ := cellsS X.out; rw [HOP.out] at x4; clear hb hc1 hC1)
          | (go_at_call 12; (with_reducible refine (find_any x.draw l A c _ (Kd.C_below HR.out HB.out)).mono ?_); rintro e w1 ⟨he_, hb⟩; rw [HF.out] at he_; subst he_; have H1 := Aside0.mk (Kd.C_below H1.out hb); have HB := Aside0.mk (below_step HB.out hb); have X := Aside0.mk (blk_below X.out hb); clear x0 x2 x4; obtain ⟨x0, _, x2, _, x4, _, _⟩ := cellsS X.out; rw [HOP.out] at x4; clear hb)
          | (go_at_call 12; (with_reducible refine (find_any x.draw a A1 c1 _ H1.out).mono ?_); rintro e w1 ⟨he_, hb⟩; rw [HF2.out] at he_; subst he_; have H1 := Aside0.mk (Kd.C_below H1.out hb); have HB := Aside0.mk (below_step HB.out hb); have X := Aside0.mk (blk_below X.out hb); clear x0 x2 x4; obtain ⟨x0, _, x2, _, x4, _, _⟩ := cellsS X.out; rw [HOP.out] at x4; clear hb))
        obtain ⟨aa, ea, _, y0, _, _, _, y4, _, y6⟩ := at_S H1.out m (by have := HLA1.out; omega) { x with last := now } HAM.out
        subst ea
        rw [show ({ x with last := now } : Ses).isOpen = false from HOP.out] at y4
        have hmi : (m : Int) < (a.length : Int) := by have := HLA1.out; omega
        refine start_ (n := 35) (S := fun w' => w'.cell? ⟨(aa.add (m * 39)).block, (aa.add (m * 39)).off + 36, none⟩ = some (.bool false) ∧ w'.cell? ⟨(aa.add (m * 39)).block, (aa.add (m * 39)).off + 38, none⟩ = some (.int .i64 now) ∧ w'.cell? (aa.add (m * 39)) = some (.int .i64 x.user) ∧ w'.cell? ⟨w.heap.size, 0, none⟩ = some (.int .i64 x.user)) (ds := []) #[false, false, false, false, false, false, false, false, false, false, false, false, false, false, false, false, false, false, false, false, false, false, false, false, false, false, false, false, false, false, false, false, false, false, false] (by kernel_rfl) rfl rfl ⟨y4, y6, y0, x0⟩ (fun hHeld => ?_)
        refine pure_ (i := 0) (N := some 128) (v := ?_) (a' := ?_) #[true, false, false, false, false, false, false, false, false, false, false, false, false, false, false, false, false, false, false, false, false, false, false, false, false, false, false, false, false, false, false, false, false, false, false] rfl rfl (by kernel_rfl) (fun _ _ _ h => h) (Or.inl ⟨by rfl, ?_⟩) ?_ ?_
        rotate_left
        · intro w'
          go_simp
          with_reducible rfl
        rotate_left
        · simp only [Act.put, List.setIfInBounds_toArray, List.set_cons_zero, List.set_cons_succ, i64_w, i32_w]
          rfl
        refine pure_ (i := 1) (N := some 129) (v := ?_) (a' := ?_) #[true, true, false, false, false, false, false, false, false, false, false, false, false, false, false, false, false, false, false, false, false, false, false, false, false, false, false, false, false, false, false, false, false, false, false] rfl rfl (by kernel_rfl) (fun _ _ _ h => h) (Or.inl ⟨by rfl, ?_⟩) ?_ ?_
        rotate_left
        · intro w'
          go_simp
          with_reducible rfl
        rotate_left
        · simp only [Act.put, List.setIfInBounds_toArray, List.set_cons_zero, List.set_cons_succ, i64_w, i32_w]
          rfl
        refine pure_ (i := 2) (N := some 130) (v := ?_) (a' := ?_) #[true, true, true, false, false, false, false, false, false, false, false, false, false, false, false, false, false, false, false, false, false, false, false, false, false, false, false, false, false, false, false, false, false, false, false] rfl rfl (by kernel_rfl) (fun _ _ _ h => h) (Or.inl ⟨by rfl, ?_⟩) ?_ ?_
        rotate_left
        · intro w'
          go_simp
          with_reducible rfl
        rotate_left
        · simp only [Act.put, List.setIfInBounds_toArray, List.set_cons_zero, List.set_cons_succ, i64_w, i32_w]
          rfl
        refine pure_ (i := 3) (N := some 131) (v := ?_) (a' := ?_) #[true, true, true, true, false, false, false, false, false, false, false, false, false, false, false, false, false, false, false, false, false, false, false, false, false, false, false, false, false, false, false, false, false, false, false] rfl rfl (by kernel_rfl) (fun _ _ _ h => h) (Or.inl ⟨by rfl, ?_⟩) ?_ ?_
        rotate_left
        · intro w'
          go_simp
          with_reducible rfl
        rotate_left
        · simp only [Act.put, List.setIfInBounds_toArray, List.set_cons_zero, List.set_cons_succ, i64_w, i32_w]
          rfl
        refine pure_ (i := 4) (N := some 132) (v := ?_) (a' := ?_) #[true, true, true, true, true, false, false, false, false, false, false, false, false, false, false, false, false, false, false, false, false, false, false, false, false, false, false, false, false, false, false, false, false, false, false] rfl rfl (by kernel_rfl) (fun _ _ _ h => h) (Or.inl ⟨by rfl, ?_⟩) ?_ ?_
        rotate_left
        · intro w'
          go_simp
          with_reducible rfl
        rotate_left
        · simp only [Act.put, List.setIfInBounds_toArray, List.set_cons_zero, List.set_cons_succ, i64_w, i32_w]
          rfl
        refine pure_ (i := 5) (N := some 133) (v := ?_) (a' := ?_) #[true, true, true, true, true, true, false, false, false, false, false, false, false, false, false, false, false, false, false, false, false, false, false, false, false, false, false, false, false, false, false, false, false, false, false] rfl rfl (by kernel_rfl) (fun _ _ _ h => h) (Or.inl ⟨by rfl, ?_⟩) ?_ ?_
        rotate_left
        · intro w'
          go_simp
          with_reducible rfl
        rotate_left
        · simp only [Act.put, List.setIfInBounds_toArray, List.set_cons_zero, List.set_cons_succ, i64_w, i32_w]
          rfl
        refine pure_ (i := 6) (N := some 134) (v := ?_) (a' := ?_) #[true, true, true, true, true, true, true, false, false, false, false, false, false, false, false, false, false, false, false, false, false, false, false, false, false, false, false, false, false, false, false, false, false, false, false] rfl rfl (by kernel_rfl) (fun _ _ _ h => h) (Or.inl ⟨by rfl, ?_⟩) ?_ ?_
        rotate_left
        · intro w'
          go_simp
          with_reducible rfl
        rotate_left
        · simp only [Act.put, List.setIfInBounds_toArray, List.set_cons_zero, List.set_cons_succ, i64_w, i32_w]
          rfl
        refine pure_ (i := 7) (N := some 135) (v := ?_) (a' := ?_) #[true, true, true, true, true, true, true, true, false, false, false, false, false, false, false, false, false, false, false, false, false, false, false, false, false, false, false, false, false, false, false, false, false, false, false] rfl rfl (by kernel_rfl) (fun _ _ _ h => h) (Or.inl ⟨by rfl, ?_⟩) ?_ ?_
        rotate_left
        · intro w'
          go_simp
          with_reducible rfl
        rotate_left
        · simp only [Act.put, List.setIfInBounds_toArray, List.set_cons_zero, List.set_cons_succ, i64_w, i32_w]
          rfl
        refine pure_ (i := 8) (N := some 136) (v := ?_) (a' := ?_) #[true, true, true, true, true, true, true, true, true, false, false, false, false, false, false, false, false, false, false, false, false, false, false, false, false, false, false, false, false, false, false, false, false, false, false] rfl rfl (by kernel_rfl) (fun _ _ _ h => h) (Or.inl ⟨by rfl, ?_⟩) ?_ ?_
        rotate_left
        · intro w'
          go_simp
          with_reducible rfl
        rotate_left
        · simp only [Act.put, List.setIfInBounds_toArray, List.set_cons_zero, List.set_cons_succ, i64_w, i32_w]
          rfl
        refine pure_ (i := 9) (N := some 137) (v := ?_) (a' := ?_) #[true, true, true, true, true, true, true, true, true, true, false, false, false, false, false, false, false, false, false, false, false, false, false, false, false, false, false, false, false, false, false, false, false, false, false] rfl rfl (by kernel_rfl) (fun _ _ _ h => h) (Or.inl ⟨by rfl, ?_⟩) ?_ ?_
        rotate_left
        · intro w'
          go_simp
          with_reducible rfl
        rotate_left
        · simp only [Act.put, List.setIfInBounds_toArray, List.set_cons_zero, List.set_cons_succ, i64_w, i32_w]
          rfl
        refine pure_ (i := 10) (N := some 138) (v := ?_) (a' := ?_) #[true, true, true, true, true, true, true, true, true, true, true, false, false, false, false, false, false, false, false, false, false, false, false, false, false, false, false, false, false, false, false, false, false, false, false] rfl rfl (by kernel_rfl) (fun _ _ _ h => h) (Or.inl ⟨by rfl, ?_⟩) ?_ ?_
        rotate_left
        · intro w'
          go_simp
          with_reducible rfl
        rotate_left
        · simp only [Act.put, List.setIfInBounds_toArray, List.set_cons_zero, List.set_cons_succ, i64_w, i32_w]
          rfl
        refine pure_ (i := 11) (N := some 139) (v := ?_) (a' := ?_) #[true, true, true, true, true, true, true, true, true, true, true, true, false, false, false, false, false, false, false, false, false, false, false, false, false, false, false, false, false, false, false, false, false, false, false] rfl rfl (by kernel_rfl) (fun _ _ _ h => h) (Or.inl ⟨by rfl, ?_⟩) ?_ ?_
        rotate_left
        · intro w'
          go_simp
          with_reducible rfl
        rotate_left
        · simp only [Act.put, List.setIfInBounds_toArray, List.set_cons_zero, List.set_cons_succ, i64_w, i32_w]
          rfl
        refine pure_ (i := 12) (N := some 140) (v := ?_) (a' := ?_) #[true, true, true, true, true, true, true, true, true, true, true, true, true, false, false, false, false, false, false, false, false, false, false, false, false, false, false, false, false, false, false, false, false, false, false] rfl rfl (by kernel_rfl) (fun _ _ _ h => h) (Or.inl ⟨by rfl, ?_⟩) ?_ ?_
        rotate_left
        · intro w'
          go_simp
          with_reducible rfl
        rotate_left
        · simp only [Act.put, List.setIfInBounds_toArray, List.set_cons_zero, List.set_cons_succ, i64_w, i32_w]
          rfl
        refine pure_ (i := 13) (N := some 141) (v := ?_) (a' := ?_) #[true, true, true, true, true, true, true, true, true, true, true, true, true, true, false, false, false, false, false, false, false, false, false, false, false, false, false, false, false, false, false, false, false, false, false] rfl rfl (by kernel_rfl) (fun _ _ _ h => h) (Or.inl ⟨by rfl, ?_⟩) ?_ ?_
        rotate_left
        · intro w'
          go_simp
          with_reducible rfl
        rotate_left
        · simp only [Act.put, List.setIfInBounds_toArray, List.set_cons_zero, List.set_cons_succ, i64_w, i32_w]
          rfl
        refine take_ (i := 14) (N := some 142) (v := ?_) (a' := ?_) #[true, true, true, true, true, true, true, true, true, true, true, true, true, true, true, false, false, false, false, false, false, false, false, false, false, false, false, false, false, false, false, false, false, false, false] rfl rfl (by kernel_rfl) (fun _ _ _ h => h) (Or.inl ⟨by rfl, ?_⟩) hHeld ?_ ?_
        rotate_left
        · rintro w' ⟨s0, s1, s2, s3⟩
          go_simp
          with_reducible rfl
        rotate_left
        · simp only [Act.put, List.setIfInBounds_toArray, List.set_cons_zero, List.set_cons_succ, i64_w, i32_w]
          rfl
        refine pure_ (i := 15) (N := some 143) (v := ?_) (a' := ?_) #[true, true, true, true, true, true, true, true, true, true, true, true, true, true, true, true, false, false, false, false, false, false, false, false, false, false, false, false, false, false, false, false, false, false, false] rfl rfl (by kernel_rfl) (fun _ _ _ h => h) (Or.inl ⟨by rfl, ?_⟩) ?_ ?_
        rotate_left
        · intro w'
          go_simp
          with_reducible rfl
        rotate_left
        · simp only [Act.put, List.setIfInBounds_toArray, List.set_cons_zero, List.set_cons_succ, i64_w, i32_w]
          rfl
        refine pure_ (i := 16) (N := some 144) (v := ?_) (a' := ?_) #[true, true, true, true, true, true, true, true, true, true, true, true, true, true, true, true, true, false, false, false, false, false, false, false, false, false, false, false, false, false, false, false, false, false, false] rfl rfl (by kernel_rfl) (fun _ _ _ h => h) (Or.inl ⟨by rfl, ?_⟩) ?_ ?_
        rotate_left
        · intro w'
          go_simp
          with_reducible rfl
        rotate_left
        · simp only [Act.put, List.setIfInBounds_toArray, List.set_cons_zero, List.set_cons_succ, i64_w, i32_w]
          rfl
        refine pure_ (i := 17) (N := some 145) (v := ?_) (a' := ?_) #[true, true, true, true, true, true, true, true, true, true, true, true, true, true, true, true, true, true, false, false, false, false, false, false, false, false, false, false, false, false, false, false, false, false, false] rfl rfl (by kernel_rfl) (fun _ _ _ h => h) (Or.inl ⟨by rfl, ?_⟩) ?_ ?_
        rotate_left
        · intro w'
          go_simp
          with_reducible rfl
        rotate_left
        · simp only [Act.put, List.setIfInBounds_toArray, List.set_cons_zero, List.set_cons_succ, i64_w, i32_w]
          rfl
        refine pure_ (i := 18) (N := some 146) (v := ?_) (a' := ?_) #[true, true, true, true, true, true, true, true, true, true, true, true, true, true, true, true, true, true, true, false, false, false, false, false, false, false, false, false, false, false, false, false, false, false, false] rfl rfl (by kernel_rfl) (fun _ _ _ h => h) (Or.inl ⟨by rfl, ?_⟩) ?_ ?_
        rotate_left
        · intro w'
          go_simp
          with_reducible rfl
        rotate_left
        · simp only [Act.put, List.setIfInBounds_toArray, List.set_cons_zero, List.set_cons_succ, i64_w, i32_w]
          rfl
        refine pure_ (i := 19) (N := some 147) (v := ?_) (a' := ?_) #[true, true, true, true, true, true, true, true, true, true, true, true, true, true, true, true, true, true, true, true, false, false, false, false, false, false, false, false, false, false, false, false, false, false, false] rfl rfl (by kernel_rfl) (fun _ _ _ h => h) (Or.inl ⟨by rfl, ?_⟩) ?_ ?_
        rotate_left
        · intro w'
          go_simp
          with_reducible rfl
        rotate_left
        · simp only [Act.put, List.setIfInBounds_toArray, List.set_cons_zero, List.set_cons_succ, i64_w, i32_w]
          rfl
        refine pure_ (i := 20) (N := some 148) (v := ?_) (a' := ?_) #[true, true, true, true, true, true, true, true, true, true, true, true, true, true, true, true, true, true, true, true, true, false, false, false, false, false, false, false, false, false, false, false, false, false, false] rfl rfl (by kernel_rfl) (fun _ _ _ h => h) (Or.inl ⟨by rfl, ?_⟩) ?_ ?_
        rotate_left
        · intro w'
          go_simp
          with_reducible rfl
        rotate_left
        · simp only [Act.put, List.setIfInBounds_toArray, List.set_cons_zero, List.set_cons_succ, i64_w, i32_w]
          rfl
        refine pure_ (i := 22) (N := some 150) (v := ?_) (a' := ?_) #[true, true, true, true, true, true, true, true, true, true, true, true, true, true, true, true, true, true, true, true, true, false, true, false, false, false, false, false, false, false, false, false, false, false, false] rfl rfl (by kernel_rfl) (fun _ _ _ h => h) (Or.inl ⟨by rfl, ?_⟩) ?_ ?_
        rotate_left
        · intro w'
          go_simp
          with_reducible rfl
        rotate_left
        · simp only [Act.put, List.setIfInBounds_toArray, List.set_cons_zero, List.set_cons_succ, i64_w, i32_w]
          rfl
        refine take_ (i := 21) (N := some 149) (v := ?_) (a' := ?_) #[true, true, true, true, true, true, true, true, true, true, true, true, true, true, true, true, true, true, true, true, true, true, true, false, false, false, false, false, false, false, false, false, false, false, false] rfl rfl (by kernel_rfl) (fun _ _ _ h => h) (Or.inl ⟨by rfl, ?_⟩) hHeld ?_ ?_
        rotate_left
        · rintro w' ⟨s0, s1, s2, s3⟩
          go_simp
          with_reducible rfl
        rotate_left
        · simp only [Act.put, List.setIfInBounds_toArray, List.set_cons_zero, List.set_cons_succ, i64_w, i32_w]
          rfl
        refine pure_ (i := 23) (N := some 151) (v := ?_) (a' := ?_) #[true, true, true, true, true, true, true, true, true, true, true, true, true, true, true, true, true, true, true, true, true, true, true, true, false, false, false, false, false, false, false, false, false, false, false] rfl rfl (by kernel_rfl) (fun _ _ _ h => h) (Or.inl ⟨by rfl, ?_⟩) ?_ ?_
        rotate_left
        · intro w'
          go_simp
          with_reducible rfl
        rotate_left
        · simp only [Act.put, List.setIfInBounds_toArray, List.set_cons_zero, List.set_cons_succ, i64_w, i32_w]
          rfl
        refine pure_ (i := 24) (N := some 152) (v := ?_) (a' := ?_) #[true, true, true, true, true, true, true, true, true, true, true, true, true, true, true, true, true, true, true, true, true, true, true, true, true, false, false, false, false, false, false, false, false, false, false] rfl rfl (by kernel_rfl) (fun _ _ _ h => h) (Or.inl ⟨by rfl, ?_⟩) ?_ ?_
        rotate_left
        · intro w'
          go_simp
          with_reducible rfl
        rotate_left
        · simp only [Act.put, List.setIfInBounds_toArray, List.set_cons_zero, List.set_cons_succ, i64_w, i32_w]
          rfl
        refine pure_ (i := 25) (N := some 153) (v := ?_) (a' := ?_) #[true, true, true, true, true, true, true, true, true, true, true, true, true, true, true, true, true, true, true, true, true, true, true, true, true, true, false, false, false, false, false, false, false, false, false] rfl rfl (by kernel_rfl) (fun _ _ _ h => h) (Or.inl ⟨by rfl, ?_⟩) ?_ ?_
        rotate_left
        · intro w'
          go_simp
          with_reducible rfl
        rotate_left
        · simp only [Act.put, List.setIfInBounds_toArray, List.set_cons_zero, List.set_cons_succ, i64_w, i32_w]
          rfl
        refine pure_ (i := 26) (N := some 154) (v := ?_) (a' := ?_) #[true, true, true, true, true, true, true, true, true, true, true, true, true, true, true, true, true, true, true, true, true, true, true, true, true, true, true, false, false, false, false, false, false, false, false] rfl rfl (by kernel_rfl) (fun _ _ _ h => h) (Or.inl ⟨by rfl, ?_⟩) ?_ ?_
        rotate_left
        · intro w'
          go_simp
          with_reducible rfl
        rotate_left
        · simp only [Act.put, List.setIfInBounds_toArray, List.set_cons_zero, List.set_cons_succ, i64_w, i32_w]
          rfl
        refine pure_ (i := 27) (N := some 155) (v := ?_) (a' := ?_) #[true, true, true, true, true, true, true, true, true, true, true, true, true, true, true, true, true, true, true, true, true, true, true, true, true, true, true, true, false, false, false, false, false, false, false] rfl rfl (by kernel_rfl) (fun _ _ _ h => h) (Or.inl ⟨by rfl, ?_⟩) ?_ ?_
        rotate_left
        · intro w'
          go_simp
          with_reducible rfl
        rotate_left
        · simp only [Act.put, List.setIfInBounds_toArray, List.set_cons_zero, List.set_cons_succ, i64_w, i32_w]
          rfl
        refine pure_ (i := 28) (N := some 156) (v := ?_) (a' := ?_) #[true, true, true, true, true, true, true, true, true, true, true, true, true, true, true, true, true, true, true, true, true, true, true, true, true, true, true, true, true, false, false, false, false, false, false] rfl rfl (by kernel_rfl) (fun _ _ _ h => h) (Or.inl ⟨by rfl, ?_⟩) ?_ ?_
        rotate_left
        · intro w'
          go_simp
          with_reducible rfl
        rotate_left
        · simp only [Act.put, List.setIfInBounds_toArray, List.set_cons_zero, List.set_cons_succ, i64_w, i32_w]
          rfl
        refine pure_ (i := 29) (N := some 157) (v := ?_) (a' := ?_) #[true, true, true, true, true, true, true, true, true, true, true, true, true, true, true, true, true, true, true, true, true, true, true, true, true, true, true, true, true, true, false, false, false, false, false] rfl rfl (by kernel_rfl) (fun _ _ _ h => h) (Or.inl ⟨by rfl, ?_⟩) ?_ ?_
        rotate_left
        · intro w'
          go_simp
          with_reducible rfl
        rotate_left
        · simp only [Act.put, List.setIfInBounds_toArray, List.set_cons_zero, List.set_cons_succ, i64_w, i32_w]
          rfl
        refine pure_ (i := 31) (N := some 159) (v := ?_) (a' := ?_) #[true, true, true, true, true, true, true, true, true, true, true, true, true, true, true, true, true, true, true, true, true, true, true, true, true, true, true, true, true, true, false, true, false, false, false] rfl rfl (by kernel_rfl) (fun _ _ _ h => h) (Or.inl ⟨by rfl, ?_⟩) ?_ ?_
        rotate_left
        · intro w'
          go_simp
          with_reducible rfl
        rotate_left
        · simp only [Act.put, List.setIfInBounds_toArray, List.set_cons_zero, List.set_cons_succ, i64_w, i32_w]
          rfl
        refine take_ (i := 30) (N := some 158) (v := ?_) (a' := ?_) #[true, true, true, true, true, true, true, true, true, true, true, true, true, true, true, true, true, true, true, true, true, true, true, true, true, true, true, true, true, true, true, true, false, false, false] rfl rfl (by kernel_rfl) (fun _ _ _ h => h) (Or.inl ⟨by rfl, ?_⟩) hHeld ?_ ?_
        rotate_left
        · rintro w' ⟨s0, s1, s2, s3⟩
          go_simp
          with_reducible rfl
        rotate_left
        · simp only [Act.put, List.setIfInBounds_toArray, List.set_cons_zero, List.set_cons_succ, i64_w, i32_w]
          rfl
        refine take_ (i := 32) (N := some 160) (v := ?_) (a' := ?_) #[true, true, true, true, true, true, true, true, true, true, true, true, true, true, true, true, true, true, true, true, true, true, true, true, true, true, true, true, true, true, true, true, true, false, false] rfl rfl (by kernel_rfl) (fun _ _ _ h => h) (Or.inl ⟨by rfl, ?_⟩) hHeld ?_ ?_
        rotate_left
        · rintro w' ⟨s0, s1, s2, s3⟩
          go_simp
          with_reducible rfl
        rotate_left
        · simp only [Act.put, List.setIfInBounds_toArray, List.set_cons_zero, List.set_cons_succ, i64_w, i32_w]
          rfl
        refine pure_ (i := 33) (N := some 161) (v := ?_) (a' := ?_) #[true, true, true, true, true, true, true, true, true, true, true, true, true, true, true, true, true, true, true, true, true, true, true, true, true, true, true, true, true, true, true, true, true, true, false] rfl rfl (by kernel_rfl) (fun _ _ _ h => h) (Or.inl ⟨by rfl, ?_⟩) ?_ ?_
        rotate_left
        · intro w'
          go_simp
          with_reducible rfl
        rotate_left
        · simp only [Act.put, List.setIfInBounds_toArray, List.set_cons_zero, List.set_cons_succ, i64_w, i32_w]
          rfl
        refine pure_ (i := 34) (N := some 162) (v := ?_) (a' := ?_) #[true, true, true, true, true, true, true, true, true, true, true, true, true, true, true, true, true, true, true, true, true, true, true, true, true, true, true, true, true, true, true, true, true, true, true] rfl rfl (by kernel_rfl) (fun _ _ _ h => h) (Or.inl ⟨by rfl, ?_⟩) ?_ ?_
        rotate_left
        · intro w'
          go_simp
          with_reducible rfl
        rotate_left
        · simp only [Act.put, List.setIfInBounds_toArray, List.set_cons_zero, List.set_cons_succ, i64_w, i32_w]
          rfl
        refine done_ (by kernel_rfl) ?_
        have X1 := Aside0.mk (blk_drew X.out)
        have HB1 := Aside0.mk (below_drew HB.out)
        have H11 := Aside0.mk (Kd.C_drew H1.out)
        clear X HB H1 y0 y4 y6 x0 x2 x4
        have X := X1
        have HB := HB1
        have H1 := H11
        clear X1 HB1 H11
        obtain ⟨x0, _, x2, _, x4, _, _⟩ := cellsS X.out
        obtain ⟨ad, e0, _, _, _, z2, _⟩ := at_S (Kd.C_below HR.out HB.out) i.toNat (by omega) y HY.out
        obtain ⟨ad_, e0_, hall⟩ := all_S HR.out (by omega) HY.out
        rw [e0] at e0_
        cases e0_
        subst e0
        have HX := Aside0.mk hall
        clear hall
        have hd1 : decide (i < 0) = false := decide_eq_false (by omega)
        have hd2 : decide ((l.length : Int) ≤ i) = false := decide_eq_false (by omega)
        clear z2
        go_wp2_with (first
          | ((with_reducible refine gate_load 35 (.tmp 174) rfl ?_); refine load_Sw (.tmp 174) rfl (by rfl) (p := ad.add (i.toNat * 39)) rfl (HX.out _ HB.out) ?_)
          | (go_at_call 14; (with_reducible refine (late_any y idle now _).mono ?_); rintro e w1 ⟨he_, hb⟩; rw [HLA.out] at he_; subst he_; have H1 := Aside0.mk (Kd.C_below H1.out hb); have HB := Aside0.mk (below_step HB.out hb); have X := Aside0.mk (blk_below X.out hb); clear x0 x2 x4; obtain ⟨x0, _, x2, _, x4, _, _⟩ := cellsS X.out; clear hb))
        go_ret
        exact ⟨rfl, HB.out⟩
      | true =>
        have hdn : ((n : Int) == 0) = false := by
          have h5 := hnf rfl
          have h6 : (l.length : Int) = 4 := by simpa using hq4
          simpa using (show ¬ ((n : Int) = 0) by omega)
        clear hnf hn3
        go_wp2_with (first
          | (with_reducible refine load_S (.tmp 6) rfl rfl (p := ⟨w.heap.size, 0, none⟩) rfl (cells_box X.out) ?_)
          | (go_at_call 15; (with_reducible refine (begin_any x idle now l A c _ (Kd.C_below HR.out HB.out) HC.out HL.out a 0 HA.out).mono ?_); rintro e w1 ⟨v, rfl, ho, hb⟩; obtain ⟨A1, c1, rfl, hc1, hC1⟩ := ho; have HC1 := Aside0.mk hc1; have H1 := Aside0.mk hC1; have HB := Aside0.mk (below_step HB.out hb); have X := Aside0.mk (blk_below X.out hb); clear x0 x2 x4; obtain ⟨x0, _, x2, _, x4, _, _⟩ := cellsS X.out; rw [HOP.out] at x4; clear hb hc1 hC1)
          | (go_at_call 12; (with_reducible refine (find_any x.draw l A c _ (Kd.C_below HR.out HB.out)).mono ?_); rintro e w1 ⟨he_, hb⟩; rw [HF.out] at he_; subst he_; have H1 := Aside0.mk (Kd.C_below H1.out hb); have HB := Aside0.mk (below_step HB.out hb); have X := Aside0.mk (blk_below X.out hb); clear x0 x2 x4; obtain ⟨x0, _, x2, _, x4, _, _⟩ := cellsS X.out; rw [HOP.out] at x4; clear hb)
          | (go_at_call 12; (with_reducible refine (find_any x.draw a A1 c1 _ H1.out).mono ?_); rintro e w1 ⟨he_, hb⟩; rw [HF2.out] at he_; subst he_; have H1 := Aside0.mk (Kd.C_below H1.out hb); have HB := Aside0.mk (below_step HB.out hb); have X := Aside0.mk (blk_below X.out hb); clear x0 x2 x4; obtain ⟨x0, _, x2, _, x4, _, _⟩ := cellsS X.out; rw [HOP.out] at x4; clear hb))
        obtain ⟨aa, ea, _, y0, _, _, _, y4, _, y6⟩ := at_S H1.out m (by have := HLA1.out; omega) { x with last := now } HAM.out
        subst ea
        rw [show ({ x with last := now } : Ses).isOpen = false from HOP.out] at y4
        have hmi : (m : Int) < (a.length : Int) := by have := HLA1.out; omega
        refine start_ (n := 35) (S := fun w' => w'.cell? ⟨(aa.add (m * 39)).block, (aa.add (m * 39)).off + 36, none⟩ = some (.bool false) ∧ w'.cell? ⟨(aa.add (m * 39)).block, (aa.add (m * 39)).off + 38, none⟩ = some (.int .i64 now) ∧ w'.cell? (aa.add (m * 39)) = some (.int .i64 x.user) ∧ w'.cell? ⟨w.heap.size, 0, none⟩ = some (.int .i64 x.user)) (ds := []) #[false, false, false, false, false, false, false, false, false, false, false, false, false, false, false, false, false, false, false, false, false, false, false, false, false, false, false, false, false, false, false, false, false, false, false] (by kernel_rfl) rfl rfl ⟨y4, y6, y0, x0⟩ (fun hHeld => ?_)
        refine pure_ (i := 0) (N := some 128) (v := ?_) (a' := ?_) #[true, false, false, false, false, false, false, false, false, false, false, false, false, false, false, false, false, false, false, false, false, false, false, false, false, false, false, false, false, false, false, false, false, false, false] rfl rfl (by kernel_rfl) (fun _ _ _ h => h) (Or.inl ⟨by rfl, ?_⟩) ?_ ?_
        rotate_left
        · intro w'
          go_simp
          with_reducible rfl
        rotate_left
        · simp only [Act.put, List.setIfInBounds_toArray, List.set_cons_zero, List.set_cons_succ, i64_w, i32_w]
          rfl
        refine pure_ (i := 1) (N := some 129) (v := ?_) (a' := ?_) #[true, true, false, false, false, false, false, false, false, false, false, false, false, false, false, false, false, false, false, false, false, false, false, false, false, false, false, false, false, false, false, false, false, false, false] rfl rfl (by kernel_rfl) (fun _ _ _ h => h) (Or.inl ⟨by rfl, ?_⟩) ?_ ?_
        rotate_left
        · intro w'
          go_simp
          with_reducible rfl
        rotate_left
        · simp only [Act.put, List.setIfInBounds_toArray, List.set_cons_zero, List.set_cons_succ, i64_w, i32_w]
          rfl
        refine pure_ (i := 2) (N := some 130) (v := ?_) (a' := ?_) #[true, true, true, false, false, false, false, false, false, false, false, false, false, false, false, false, false, false, false, false, false, false, false, false, false, false, false, false, false, false, false, false, false, false, false] rfl rfl (by kernel_rfl) (fun _ _ _ h => h) (Or.inl ⟨by rfl, ?_⟩) ?_ ?_
        rotate_left
        · intro w'
          go_simp
          with_reducible rfl
        rotate_left
        · simp only [Act.put, List.setIfInBounds_toArray, List.set_cons_zero, List.set_cons_succ, i64_w, i32_w]
          rfl
        refine pure_ (i := 3) (N := some 131) (v := ?_) (a' := ?_) #[true, true, true, true, false, false, false, false, false, false, false, false, false, false, false, false, false, false, false, false, false, false, false, false, false, false, false, false, false, false, false, false, false, false, false] rfl rfl (by kernel_rfl) (fun _ _ _ h => h) (Or.inl ⟨by rfl, ?_⟩) ?_ ?_
        rotate_left
        · intro w'
          go_simp
          with_reducible rfl
        rotate_left
        · simp only [Act.put, List.setIfInBounds_toArray, List.set_cons_zero, List.set_cons_succ, i64_w, i32_w]
          rfl
        refine pure_ (i := 4) (N := some 132) (v := ?_) (a' := ?_) #[true, true, true, true, true, false, false, false, false, false, false, false, false, false, false, false, false, false, false, false, false, false, false, false, false, false, false, false, false, false, false, false, false, false, false] rfl rfl (by kernel_rfl) (fun _ _ _ h => h) (Or.inl ⟨by rfl, ?_⟩) ?_ ?_
        rotate_left
        · intro w'
          go_simp
          with_reducible rfl
        rotate_left
        · simp only [Act.put, List.setIfInBounds_toArray, List.set_cons_zero, List.set_cons_succ, i64_w, i32_w]
          rfl
        refine pure_ (i := 5) (N := some 133) (v := ?_) (a' := ?_) #[true, true, true, true, true, true, false, false, false, false, false, false, false, false, false, false, false, false, false, false, false, false, false, false, false, false, false, false, false, false, false, false, false, false, false] rfl rfl (by kernel_rfl) (fun _ _ _ h => h) (Or.inl ⟨by rfl, ?_⟩) ?_ ?_
        rotate_left
        · intro w'
          go_simp
          with_reducible rfl
        rotate_left
        · simp only [Act.put, List.setIfInBounds_toArray, List.set_cons_zero, List.set_cons_succ, i64_w, i32_w]
          rfl
        refine pure_ (i := 6) (N := some 134) (v := ?_) (a' := ?_) #[true, true, true, true, true, true, true, false, false, false, false, false, false, false, false, false, false, false, false, false, false, false, false, false, false, false, false, false, false, false, false, false, false, false, false] rfl rfl (by kernel_rfl) (fun _ _ _ h => h) (Or.inl ⟨by rfl, ?_⟩) ?_ ?_
        rotate_left
        · intro w'
          go_simp
          with_reducible rfl
        rotate_left
        · simp only [Act.put, List.setIfInBounds_toArray, List.set_cons_zero, List.set_cons_succ, i64_w, i32_w]
          rfl
        refine pure_ (i := 7) (N := some 135) (v := ?_) (a' := ?_) #[true, true, true, true, true, true, true, true, false, false, false, false, false, false, false, false, false, false, false, false, false, false, false, false, false, false, false, false, false, false, false, false, false, false, false] rfl rfl (by kernel_rfl) (fun _ _ _ h => h) (Or.inl ⟨by rfl, ?_⟩) ?_ ?_
        rotate_left
        · intro w'
          go_simp
          with_reducible rfl
        rotate_left
        · simp only [Act.put, List.setIfInBounds_toArray, List.set_cons_zero, List.set_cons_succ, i64_w, i32_w]
          rfl
        refine pure_ (i := 8) (N := some 136) (v := ?_) (a' := ?_) #[true, true, true, true, true, true, true, true, true, false, false, false, false, false, false, false, false, false, false, false, false, false, false, false, false, false, false, false, false, false, false, false, false, false, false] rfl rfl (by kernel_rfl) (fun _ _ _ h => h) (Or.inl ⟨by rfl, ?_⟩) ?_ ?_
        rotate_left
        · intro w'
          go_simp
          with_reducible rfl
        rotate_left
        · simp only [Act.put, List.setIfInBounds_toArray, List.set_cons_zero, List.set_cons_succ, i64_w, i32_w]
          rfl
        refine pure_ (i := 9) (N := some 137) (v := ?_) (a' := ?_) #[true, true, true, true, true, true, true, true, true, true, false, false, false, false, false, false, false, false, false, false, false, false, false, false, false, false, false, false, false, false, false, false, false, false, false] rfl rfl (by kernel_rfl) (fun _ _ _ h => h) (Or.inl ⟨by rfl, ?_⟩) ?_ ?_
        rotate_left
        · intro w'
          go_simp
          with_reducible rfl
        rotate_left
        · simp only [Act.put, List.setIfInBounds_toArray, List.set_cons_zero, List.set_cons_succ, i64_w, i32_w]
          rfl
        refine pure_ (i := 10) (N := some 138) (v := ?_) (a' := ?_) #[true, true, true, true, true, true, true, true, true, true, true, false, false, false, false, false, false, false, false, false, false, false, false, false, false, false, false, false, false, false, false, false, false, false, false] rfl rfl (by kernel_rfl) (fun _ _ _ h => h) (Or.inl ⟨by rfl, ?_⟩) ?_ ?_
        rotate_left
        · intro w'
          go_simp
          with_reducible rfl
        rotate_left
        · simp only [Act.put, List.setIfInBounds_toArray, List.set_cons_zero, List.set_cons_succ, i64_w, i32_w]
          rfl
        refine pure_ (i := 11) (N := some 139) (v := ?_) (a' := ?_) #[true, true, true, true, true, true, true, true, true, true, true, true, false, false, false, false, false, false, false, false, false, false, false, false, false, false, false, false, false, false, false, false, false, false, false] rfl rfl (by kernel_rfl) (fun _ _ _ h => h) (Or.inl ⟨by rfl, ?_⟩) ?_ ?_
        rotate_left
        · intro w'
          go_simp
          with_reducible rfl
        rotate_left
        · simp only [Act.put, List.setIfInBounds_toArray, List.set_cons_zero, List.set_cons_succ, i64_w, i32_w]
          rfl
        refine pure_ (i := 12) (N := some 140) (v := ?_) (a' := ?_) #[true, true, true, true, true, true, true, true, true, true, true, true, true, false, false, false, false, false, false, false, false, false, false, false, false, false, false, false, false, false, false, false, false, false, false] rfl rfl (by kernel_rfl) (fun _ _ _ h => h) (Or.inl ⟨by rfl, ?_⟩) ?_ ?_
        rotate_left
        · intro w'
          go_simp
          with_reducible rfl
        rotate_left
        · simp only [Act.put, List.setIfInBounds_toArray, List.set_cons_zero, List.set_cons_succ, i64_w, i32_w]
          rfl
        refine pure_ (i := 13) (N := some 141) (v := ?_) (a' := ?_) #[true, true, true, true, true, true, true, true, true, true, true, true, true, true, false, false, false, false, false, false, false, false, false, false, false, false, false, false, false, false, false, false, false, false, false] rfl rfl (by kernel_rfl) (fun _ _ _ h => h) (Or.inl ⟨by rfl, ?_⟩) ?_ ?_
        rotate_left
        · intro w'
          go_simp
          with_reducible rfl
        rotate_left
        · simp only [Act.put, List.setIfInBounds_toArray, List.set_cons_zero, List.set_cons_succ, i64_w, i32_w]
          rfl
        refine take_ (i := 14) (N := some 142) (v := ?_) (a' := ?_) #[true, true, true, true, true, true, true, true, true, true, true, true, true, true, true, false, false, false, false, false, false, false, false, false, false, false, false, false, false, false, false, false, false, false, false] rfl rfl (by kernel_rfl) (fun _ _ _ h => h) (Or.inl ⟨by rfl, ?_⟩) hHeld ?_ ?_
        rotate_left
        · rintro w' ⟨s0, s1, s2, s3⟩
          go_simp
          with_reducible rfl
        rotate_left
        · simp only [Act.put, List.setIfInBounds_toArray, List.set_cons_zero, List.set_cons_succ, i64_w, i32_w]
          rfl
        refine pure_ (i := 15) (N := some 143) (v := ?_) (a' := ?_) #[true, true, true, true, true, true, true, true, true, true, true, true, true, true, true, true, false, false, false, false, false, false, false, false, false, false, false, false, false, false, false, false, false, false, false] rfl rfl (by kernel_rfl) (fun _ _ _ h => h) (Or.inl ⟨by rfl, ?_⟩) ?_ ?_
        rotate_left
        · intro w'
          go_simp
          with_reducible rfl
        rotate_left
        · simp only [Act.put, List.setIfInBounds_toArray, List.set_cons_zero, List.set_cons_succ, i64_w, i32_w]
          rfl
        refine pure_ (i := 16) (N := some 144) (v := ?_) (a' := ?_) #[true, true, true, true, true, true, true, true, true, true, true, true, true, true, true, true, true, false, false, false, false, false, false, false, false, false, false, false, false, false, false, false, false, false, false] rfl rfl (by kernel_rfl) (fun _ _ _ h => h) (Or.inl ⟨by rfl, ?_⟩) ?_ ?_
        rotate_left
        · intro w'
          go_simp
          with_reducible rfl
        rotate_left
        · simp only [Act.put, List.setIfInBounds_toArray, List.set_cons_zero, List.set_cons_succ, i64_w, i32_w]
          rfl
        refine pure_ (i := 17) (N := some 145) (v := ?_) (a' := ?_) #[true, true, true, true, true, true, true, true, true, true, true, true, true, true, true, true, true, true, false, false, false, false, false, false, false, false, false, false, false, false, false, false, false, false, false] rfl rfl (by kernel_rfl) (fun _ _ _ h => h) (Or.inl ⟨by rfl, ?_⟩) ?_ ?_
        rotate_left
        · intro w'
          go_simp
          with_reducible rfl
        rotate_left
        · simp only [Act.put, List.setIfInBounds_toArray, List.set_cons_zero, List.set_cons_succ, i64_w, i32_w]
          rfl
        refine pure_ (i := 18) (N := some 146) (v := ?_) (a' := ?_) #[true, true, true, true, true, true, true, true, true, true, true, true, true, true, true, true, true, true, true, false, false, false, false, false, false, false, false, false, false, false, false, false, false, false, false] rfl rfl (by kernel_rfl) (fun _ _ _ h => h) (Or.inl ⟨by rfl, ?_⟩) ?_ ?_
        rotate_left
        · intro w'
          go_simp
          with_reducible rfl
        rotate_left
        · simp only [Act.put, List.setIfInBounds_toArray, List.set_cons_zero, List.set_cons_succ, i64_w, i32_w]
          rfl
        refine pure_ (i := 19) (N := some 147) (v := ?_) (a' := ?_) #[true, true, true, true, true, true, true, true, true, true, true, true, true, true, true, true, true, true, true, true, false, false, false, false, false, false, false, false, false, false, false, false, false, false, false] rfl rfl (by kernel_rfl) (fun _ _ _ h => h) (Or.inl ⟨by rfl, ?_⟩) ?_ ?_
        rotate_left
        · intro w'
          go_simp
          with_reducible rfl
        rotate_left
        · simp only [Act.put, List.setIfInBounds_toArray, List.set_cons_zero, List.set_cons_succ, i64_w, i32_w]
          rfl
        refine pure_ (i := 20) (N := some 148) (v := ?_) (a' := ?_) #[true, true, true, true, true, true, true, true, true, true, true, true, true, true, true, true, true, true, true, true, true, false, false, false, false, false, false, false, false, false, false, false, false, false, false] rfl rfl (by kernel_rfl) (fun _ _ _ h => h) (Or.inl ⟨by rfl, ?_⟩) ?_ ?_
        rotate_left
        · intro w'
          go_simp
          with_reducible rfl
        rotate_left
        · simp only [Act.put, List.setIfInBounds_toArray, List.set_cons_zero, List.set_cons_succ, i64_w, i32_w]
          rfl
        refine pure_ (i := 22) (N := some 150) (v := ?_) (a' := ?_) #[true, true, true, true, true, true, true, true, true, true, true, true, true, true, true, true, true, true, true, true, true, false, true, false, false, false, false, false, false, false, false, false, false, false, false] rfl rfl (by kernel_rfl) (fun _ _ _ h => h) (Or.inl ⟨by rfl, ?_⟩) ?_ ?_
        rotate_left
        · intro w'
          go_simp
          with_reducible rfl
        rotate_left
        · simp only [Act.put, List.setIfInBounds_toArray, List.set_cons_zero, List.set_cons_succ, i64_w, i32_w]
          rfl
        refine take_ (i := 21) (N := some 149) (v := ?_) (a' := ?_) #[true, true, true, true, true, true, true, true, true, true, true, true, true, true, true, true, true, true, true, true, true, true, true, false, false, false, false, false, false, false, false, false, false, false, false] rfl rfl (by kernel_rfl) (fun _ _ _ h => h) (Or.inl ⟨by rfl, ?_⟩) hHeld ?_ ?_
        rotate_left
        · rintro w' ⟨s0, s1, s2, s3⟩
          go_simp
          with_reducible rfl
        rotate_left
        · simp only [Act.put, List.setIfInBounds_toArray, List.set_cons_zero, List.set_cons_succ, i64_w, i32_w]
          rfl
        refine pure_ (i := 23) (N := some 151) (v := ?_) (a' := ?_) #[true, true, true, true, true, true, true, true, true, true, true, true, true, true, true, true, true, true, true, true, true, true, true, true, false, false, false, false, false, false, false, false, false, false, false] rfl rfl (by kernel_rfl) (fun _ _ _ h => h) (Or.inl ⟨by rfl, ?_⟩) ?_ ?_
        rotate_left
        · intro w'
          go_simp
          with_reducible rfl
        rotate_left
        · simp only [Act.put, List.setIfInBounds_toArray, List.set_cons_zero, List.set_cons_succ, i64_w, i32_w]
          rfl
        refine pure_ (i := 24) (N := some 152) (v := ?_) (a' := ?_) #[true, true, true, true, true, true, true, true, true, true, true, true, true, true, true, true, true, true, true, true, true, true, true, true, true, false, false, false, false, false, false, false, false, false, false] rfl rfl (by kernel_rfl) (fun _ _ _ h => h) (Or.inl ⟨by rfl, ?_⟩) ?_ ?_
        rotate_left
        · intro w'
          go_simp
          with_reducible rfl
        rotate_left
        · simp only [Act.put, List.setIfInBounds_toArray, List.set_cons_zero, List.set_cons_succ, i64_w, i32_w]
          rfl
        refine pure_ (i := 25) (N := some 153) (v := ?_) (a' := ?_) #[true, true, true, true, true, true, true, true, true, true, true, true, true, true, true, true, true, true, true, true, true, true, true, true, true, true, false, false, false, false, false, false, false, false, false] rfl rfl (by kernel_rfl) (fun _ _ _ h => h) (Or.inl ⟨by rfl, ?_⟩) ?_ ?_
        rotate_left
        · intro w'
          go_simp
          with_reducible rfl
        rotate_left
        · simp only [Act.put, List.setIfInBounds_toArray, List.set_cons_zero, List.set_cons_succ, i64_w, i32_w]
          rfl
        refine pure_ (i := 26) (N := some 154) (v := ?_) (a' := ?_) #[true, true, true, true, true, true, true, true, true, true, true, true, true, true, true, true, true, true, true, true, true, true, true, true, true, true, true, false, false, false, false, false, false, false, false] rfl rfl (by kernel_rfl) (fun _ _ _ h => h) (Or.inl ⟨by rfl, ?_⟩) ?_ ?_
        rotate_left
        · intro w'
          go_simp
          with_reducible rfl
        rotate_left
        · simp only [Act.put, List.setIfInBounds_toArray, List.set_cons_zero, List.set_cons_succ, i64_w, i32_w]
          rfl
        refine pure_ (i := 27) (N := some 155) (v := ?_) (a' := ?_) #[true, true, true, true, true, true, true, true, true, true, true, true, true, true, true, true, true, true, true, true, true, true, true, true, true, true, true, true, false, false, false, false, false, false, false] rfl rfl (by kernel_rfl) (fun _ _ _ h => h) (Or.inl ⟨by rfl, ?_⟩) ?_ ?_
        rotate_left
        · intro w'
          go_simp
          with_reducible rfl
        rotate_left
        · simp only [Act.put, List.setIfInBounds_toArray, List.set_cons_zero, List.set_cons_succ, i64_w, i32_w]
          rfl
        refine pure_ (i := 28) (N := some 156) (v := ?_) (a' := ?_) #[true, true, true, true, true, true, true, true, true, true, true, true, true, true, true, true, true, true, true, true, true, true, true, true, true, true, true, true, true, false, false, false, false, false, false] rfl rfl (by kernel_rfl) (fun _ _ _ h => h) (Or.inl ⟨by rfl, ?_⟩) ?_ ?_
        rotate_left
        · intro w'
          go_simp
          with_reducible rfl
        rotate_left
        · simp only [Act.put, List.setIfInBounds_toArray, List.set_cons_zero, List.set_cons_succ, i64_w, i32_w]
          rfl
        refine pure_ (i := 29) (N := some 157) (v := ?_) (a' := ?_) #[true, true, true, true, true, true, true, true, true, true, true, true, true, true, true, true, true, true, true, true, true, true, true, true, true, true, true, true, true, true, false, false, false, false, false] rfl rfl (by kernel_rfl) (fun _ _ _ h => h) (Or.inl ⟨by rfl, ?_⟩) ?_ ?_
        rotate_left
        · intro w'
          go_simp
          with_reducible rfl
        rotate_left
        · simp only [Act.put, List.setIfInBounds_toArray, List.set_cons_zero, List.set_cons_succ, i64_w, i32_w]
          rfl
        refine pure_ (i := 31) (N := some 159) (v := ?_) (a' := ?_) #[true, true, true, true, true, true, true, true, true, true, true, true, true, true, true, true, true, true, true, true, true, true, true, true, true, true, true, true, true, true, false, true, false, false, false] rfl rfl (by kernel_rfl) (fun _ _ _ h => h) (Or.inl ⟨by rfl, ?_⟩) ?_ ?_
        rotate_left
        · intro w'
          go_simp
          with_reducible rfl
        rotate_left
        · simp only [Act.put, List.setIfInBounds_toArray, List.set_cons_zero, List.set_cons_succ, i64_w, i32_w]
          rfl
        refine take_ (i := 30) (N := some 158) (v := ?_) (a' := ?_) #[true, true, true, true, true, true, true, true, true, true, true, true, true, true, true, true, true, true, true, true, true, true, true, true, true, true, true, true, true, true, true, true, false, false, false] rfl rfl (by kernel_rfl) (fun _ _ _ h => h) (Or.inl ⟨by rfl, ?_⟩) hHeld ?_ ?_
        rotate_left
        · rintro w' ⟨s0, s1, s2, s3⟩
          go_simp
          with_reducible rfl
        rotate_left
        · simp only [Act.put, List.setIfInBounds_toArray, List.set_cons_zero, List.set_cons_succ, i64_w, i32_w]
          rfl
        refine take_ (i := 32) (N := some 160) (v := ?_) (a' := ?_) #[true, true, true, true, true, true, true, true, true, true, true, true, true, true, true, true, true, true, true, true, true, true, true, true, true, true, true, true, true, true, true, true, true, false, false] rfl rfl (by kernel_rfl) (fun _ _ _ h => h) (Or.inl ⟨by rfl, ?_⟩) hHeld ?_ ?_
        rotate_left
        · rintro w' ⟨s0, s1, s2, s3⟩
          go_simp
          with_reducible rfl
        rotate_left
        · simp only [Act.put, List.setIfInBounds_toArray, List.set_cons_zero, List.set_cons_succ, i64_w, i32_w]
          rfl
        refine pure_ (i := 33) (N := some 161) (v := ?_) (a' := ?_) #[true, true, true, true, true, true, true, true, true, true, true, true, true, true, true, true, true, true, true, true, true, true, true, true, true, true, true, true, true, true, true, true, true, true, false] rfl rfl (by kernel_rfl) (fun _ _ _ h => h) (Or.inl ⟨by rfl, ?_⟩) ?_ ?_
        rotate_left
        · intro w'
          go_simp
          with_reducible rfl
        rotate_left
        · simp only [Act.put, List.setIfInBounds_toArray, List.set_cons_zero, List.set_cons_succ, i64_w, i32_w]
          rfl
        refine pure_ (i := 34) (N := some 162) (v := ?_) (a' := ?_) #[true, true, true, true, true, true, true, true, true, true, true, true, true, true, true, true, true, true, true, true, true, true, true, true, true, true, true, true, true, true, true, true, true, true, true] rfl rfl (by kernel_rfl) (fun _ _ _ h => h) (Or.inl ⟨by rfl, ?_⟩) ?_ ?_
        rotate_left
        · intro w'
          go_simp
          with_reducible rfl
        rotate_left
        · simp only [Act.put, List.setIfInBounds_toArray, List.set_cons_zero, List.set_cons_succ, i64_w, i32_w]
          rfl
        refine done_ (by kernel_rfl) ?_
        have X1 := Aside0.mk (blk_drew X.out)
        have HB1 := Aside0.mk (below_drew HB.out)
        have H11 := Aside0.mk (Kd.C_drew H1.out)
        clear X HB H1 y0 y4 y6 x0 x2 x4
        have X := X1
        have HB := HB1
        have H1 := H11
        clear X1 HB1 H11
        obtain ⟨x0, _, x2, _, x4, _, _⟩ := cellsS X.out
        obtain ⟨ad, e0, _, _, _, z2, _⟩ := at_S (Kd.C_below HR.out HB.out) i.toNat (by omega) y HY.out
        obtain ⟨ad_, e0_, hall⟩ := all_S HR.out (by omega) HY.out
        rw [e0] at e0_
        cases e0_
        subst e0
        have HX := Aside0.mk hall
        clear hall
        have hd1 : decide (i < 0) = false := decide_eq_false (by omega)
        have hd2 : decide ((l.length : Int) ≤ i) = false := decide_eq_false (by omega)
        clear z2
        go_wp2_with (first
          | ((with_reducible refine gate_load 35 (.tmp 174) rfl ?_); refine load_Sw (.tmp 174) rfl (by rfl) (p := ad.add (i.toNat * 39)) rfl (HX.out _ HB.out) ?_)
          | (go_at_call 14; (with_reducible refine (late_any y idle now _).mono ?_); rintro e w1 ⟨he_, hb⟩; rw [HLA.out] at he_; subst he_; have H1 := Aside0.mk (Kd.C_below H1.out hb); have HB := Aside0.mk (below_step HB.out hb); have X := Aside0.mk (blk_below X.out hb); clear x0 x2 x4; obtain ⟨x0, _, x2, _, x4, _, _⟩ := cellsS X.out; clear hb))
        go_ret
        exact ⟨rfl, HB.out⟩
set_option maxHeartbeats 4000000 in
set_option maxRecDepth 100000 in
theorem room_z4 (l : List Ses) (A : Option Addr) (c : Nat) (x : Ses) (idle now i : Int) (w : World) (hr : kS.C w A l.length l) (hc : l.length ≤ c) (hfew : decide (l.length ≤ 8) = true) (hm : mayS l = true) (hm1 : mayS [x] = true) (hop : x.isOpen = false) (h : 1 ≤ idle) (h2 : idle ≤ 1048576) (h3 : 0 ≤ now) (h4 : now ≤ 1073741824) (hl : l.length < 1000000) (a : List Ses) (fd : Int) (ha : beginS l x idle now = (a, 0)) (hf : findS l x.draw = fd) (h0 : fd < 0) (m : Nat) (hla1 : a.length = m + 1) (hm2 : (m : Int) ≤ 1000000) (ham : a[m]? = some { x with last := now }) (hf2 : findS a x.draw = m) (q4 : Bool) (hq4 : ((l.length : Int) == 4) = q4) (hnf : q4 = true → (awakeS l idle now).length ≠ 4) (hi : 0 ≤ i) (hi2 : i < (l.length : Int)) (y : Ses) (hy : l[i.toNat]? = some y) (hla : lateB y idle now = false) (fy : Int) (hf3 : findS a y.draw = fy) (h0y : 0 ≤ fy) :
    Calls Try.prog 5 #[.slice A l.length c, .agg (sca x), .int .i64 idle, .int .i64 now, .int .i64 i] w fun e w' => e = .returned (.bool true) ∧ Below w.heap.size w w' := by
  have HR := Aside0.mk hr
  have HC := Aside0.mk hc
  clear hr hc
  have HFEW := Aside0.mk hfew
  clear hfew
  have HM := Aside0.mk hm
  have HM1 := Aside0.mk hm1
  have HOP := Aside0.mk hop
  clear hm hm1 hop
  have HL := Aside0.mk hl
  have HA := Aside0.mk ha
  have HF := Aside0.mk hf
  clear hl ha hf
  go_enter Try.func5, Try.ntmps5
  go_wp2_with (first
    | (go_at_call 9; (with_reducible refine (awake_any _).mono ?_); rintro e w1 ⟨rfl, hb⟩; have X := Aside0.mk (blk_below (blk_new w (.cells (sca x) 35)) hb); have HB := Aside0.mk (below_step (below_box w x) hb); obtain ⟨x0, _, x2, _, x4, _, _⟩ := cellsS X.out; rw [HOP.out] at x4; clear hb)
    | (go_at_call 10; (with_reducible refine (few_any l A c _).mono ?_); rintro e w1 ⟨he_, rfl⟩; rw [HFEW.out] at he_; subst he_)
    | (go_at_call 13; (with_reducible refine (mayL_any l A c _ (Kd.C_below HR.out HB.out) HC.out).mono ?_); rintro e w1 ⟨he_, hb⟩; rw [HM.out] at he_; subst he_; have HB := Aside0.mk (below_step HB.out hb); have X := Aside0.mk (blk_below X.out hb); clear x0 x2 x4; obtain ⟨x0, _, x2, _, x4, _, _⟩ := cellsS X.out; rw [HOP.out] at x4; clear hb)
    | ((with_reducible refine gate_load 35 (.tmp 6) rfl ?_); refine load_Sw (.tmp 6) rfl (by rfl) (p := ⟨w.heap.size, 0, none⟩) rfl (cells_box X.out) ?_)
    | ((with_reducible refine gate_build (.tmp 35) rfl ?_); refine gate_guard (by rfl) ?_; dsimp only; refine Kd.event_run rfl (exec_buildS (.tmp 35) rfl rfl) ?_; have HROW := Aside0.mk (row_one w1 x); have X := Aside0.mk (blk_alloc X.out (.cells (sca x) 35)); have HB := Aside0.mk (below_alloc HB.out (.cells (sca x) 35)); clear x0 x2 x4; obtain ⟨x0, _, x2, _, x4, _, _⟩ := cellsS X.out; rw [HOP.out] at x4)
    | (go_at_call 13; (with_reducible refine (may_1 x _ 1 _ HROW.out (Nat.le_refl _)).mono ?_); rintro e w1 ⟨he_, hb⟩; rw [HM1.out] at he_; subst he_; have HB := Aside0.mk (below_step HB.out hb); have X := Aside0.mk (blk_below X.out hb); clear x0 x2 x4; obtain ⟨x0, _, x2, _, x4, _, _⟩ := cellsS X.out; rw [HOP.out] at x4; clear hb))
  go_loopw [13, 14] (fun v13 v14 wr => ∃ j : Nat, j ≤ l.length ∧ v13 = .int .i64 (lateN (l.take j) idle now) ∧ v14 = .int .i64 j ∧ Aside0 (wr.heap[w.heap.size]? = some (.cells (sca x) 35 (0, 0))) ∧ Aside0 (Below w.heap.size w wr)) (fun _ v14 _ => l.length - (intOf v14).toNat)
  case atStart => exact ⟨0, by omega, rfl, rfl, X, HB⟩
  case round =>
    clear X HB x0 x2 x4 HROW
    obtain ⟨j, hj, rfl, rfl, X, HB⟩ := hrel
    obtain ⟨wo, rfl⟩ : ∃ wo : World, wo = wr := ⟨_, rfl⟩
    obtain ⟨x0, _, x2, _, x4, _, _⟩ := cellsS X.out
    rw [HOP.out] at x4
    have hn1 := lateN_le l idle now j
    have hn2 : l.length ≤ 1000000 := by have := HL.out; omega
    by_cases hlt : j < l.length
    · obtain ⟨y, hy⟩ : ∃ y, l[j]? = some y := ⟨_, List.getElem?_eq_getElem hlt⟩
      obtain ⟨ad, e0, hall⟩ := all_S HR.out hlt hy
      subst e0
      have HX := Aside0.mk hall
      have HY := Aside0.mk hy
      clear hall hy
      cases hla : lateB y idle now with
      | true =>
        have HLA := Aside0.mk hla
        have HN := Aside0.mk (lateN_yes HY.out hla)
        clear hla
        generalize lateN (l.take j) idle now = n at *
        go_wp2_with (first
          | (with_reducible refine load_S (.tmp 69) rfl rfl (p := ad.add (j * 39)) rfl (HX.out _ HB.out) ?_)
          | (go_at_call 14; (with_reducible refine (late_any y idle now _).mono ?_); rintro e w1 ⟨he_, hb⟩; rw [HLA.out] at he_; subst he_; have HB := Aside0.mk (below_step HB.out hb); have X := Aside0.mk (blk_below X.out hb); clear x0 x2 x4; obtain ⟨x0, _, x2, _, x4, _, _⟩ := cellsS X.out; rw [HOP.out] at x4; clear hb))
        go_roundw
        case rel => exact ⟨j + 1, by omega, by rw [HN.out]; go_num, by go_num, X, HB⟩
        case measure => simp [intOf]; omega
      | false =>
        have HLA := Aside0.mk hla
        have HN := Aside0.mk (lateN_no HY.out hla)
        clear hla
        generalize lateN (l.take j) idle now = n at *
        go_wp2_with (first
          | (with_reducible refine load_S (.tmp 69) rfl rfl (p := ad.add (j * 39)) rfl (HX.out _ HB.out) ?_)
          | (go_at_call 14; (with_reducible refine (late_any y idle now _).mono ?_); rintro e w1 ⟨he_, hb⟩; rw [HLA.out] at he_; subst he_; have HB := Aside0.mk (below_step HB.out hb); have X := Aside0.mk (blk_below X.out hb); clear x0 x2 x4; obtain ⟨x0, _, x2, _, x4, _, _⟩ := cellsS X.out; rw [HOP.out] at x4; clear hb))
        go_roundw
        case rel => exact ⟨j + 1, by omega, by rw [HN.out], by go_num, X, HB⟩
        case measure => simp [intOf]; omega
    · obtain rfl : j = l.length := by omega
      rw [List.take_length] at hn1
      simp only [List.take_length]
      have hn3 := lateN_awake l idle now
      obtain ⟨n, hn⟩ : ∃ n, lateN l idle now = n := ⟨_, rfl⟩
      rw [hn] at hn1 hn3
      simp only [hn]
      clear hn
      have hd : decide (0 ≤ fd) = false := decide_eq_false (by omega)
      have HLA1 := Aside0.mk hla1
      have HAM := Aside0.mk ham
      have HF2 := Aside0.mk hf2
      have hal : (a.length : Int) - 1 = m := by omega
      have hm0 : decide ((m : Int) < 0) = false := by simp
      have hw4 : Go.RowKit.wrap64 (m : Int) = (m : Int) := by unfold Go.RowKit.wrap64; omega
      have HY := Aside0.mk hy
      have HLA := Aside0.mk hla
      have HF3 := Aside0.mk hf3
      have hdy := decide_eq_true h0y
      clear hy hla hf3
      clear hla1 ham hf2
      cases q4 with
      | false =>
        clear hnf hn3
        go_wp2_with (first
          | (with_reducible refine load_S (.tmp 6) rfl rfl (p := ⟨w.heap.size, 0, none⟩) rfl (cells_box X.out) ?_)
          | (go_at_call 15; (with_reducible refine (begin_any x idle now l A c _ (Kd.C_below HR.out HB.out) HC.out HL.out a 0 HA.out).mono ?_); rintro e w1 ⟨v, rfl, ho, hb⟩; obtain ⟨A1, c1, rfl, hc1, hC1⟩ := ho; have HC1 := Aside0.mk hc1; have H1 := Aside0.mk hC1; have HB := Aside0.mk (below_step HB.out hb); have X := Aside0.mk (blk_below X.out hb); clear x0 x2 x4; obtain ⟨x0, _, x2, _, x4, _, _⟩ := cellsS X.out; rw [HOP.out] at x4; clear hb hc1 hC1)
          | (go_at_call 12; (with_reducible refine (find_any x.draw l A c _ (Kd.C_below HR.out HB.out)).mono ?_); rintro e w1 ⟨he_, hb⟩; rw [HF.out] at he_; subst he_; have H1 := Aside0.mk (Kd.C_below H1.out hb); have HB := Aside0.mk (below_step HB.out hb); have X := Aside0.mk (blk_below X.out hb); clear x0 x2 x4; obtain ⟨x0, _, x2, _, x4, _, _⟩ := cellsS X.out; rw [HOP.out] at x4; clear hb)
          | (go_at_call 12; (with_reducible refine (find_any x.draw a A1 c1 _ H1.out).mono ?_); rintro e w1 ⟨he_, hb⟩; rw [HF2.out] at he_; subst he_; have H1 := Aside0.mk (Kd.C_below H1.out hb); have HB := Aside0.mk (below_step HB.out hb); have X := Aside0.mk (blk_below X.out hb); clear x0 x2 x4; obtain ⟨x0, _, x2, _, x4, _, _⟩ := cellsS X.out; rw [HOP.out] at x4; clear hb))
        obtain ⟨aa, ea, _, y0, _, _, _, y4, _, y6⟩ := at_S H1.out m (by have := HLA1.out; omega) { x with last := now } HAM.out
        subst ea
        rw [show ({ x with last := now } : Ses).isOpen = false from HOP.out] at y4
        have hmi : (m : Int) < (a.length : Int) := by have := HLA1.out; omega
        refine start_ (n := 35) (S := fun w' => w'.cell? ⟨(aa.add (m * 39)).block, (aa.add (m * 39)).off + 36, none⟩ = some (.bool false) ∧ w'.cell? ⟨(aa.add (m * 39)).block, (aa.add (m * 39)).off + 38, none⟩ = some (.int .i64 now) ∧ w'.cell? (aa.add (m * 39)) = some (.int .i64 x.user) ∧ w'.cell? ⟨w.heap.size, 0, none⟩ = some (.int .i64 x.user)) (ds := []) #[false, false, false, false, false, false, false, false, false, false, false, false, false, false, false, false, false, false, false, false, false, false, false, false, false, false, false, false, false, false, false, false, false, false, false] (by kernel_rfl) rfl rfl ⟨y4, y6, y0, x0⟩ (fun hHeld => ?_)
        refine pure_ (i := 0) (N := some 128) (v := ?_) (a' := ?_) #[true, false, false, false, false, false, false, false, false, false, false, false, false, false, false, false, false, false, false, false, false, false, false, false, false, false, false, false, false, false, false, false, false, false, false] rfl rfl (by kernel_rfl) (fun _ _ _ h => h) (Or.inl ⟨by rfl, ?_⟩) ?_ ?_
        rotate_left
        · intro w'
          go_simp
          with_reducible rfl
        rotate_left
        · simp only [Act.put, List.setIfInBounds_toArray, List.set_cons_zero, List.set_cons_succ, i64_w, i32_w]
          rfl
        refine pure_ (i := 1) (N := some 129) (v := ?_) (a' := ?_) #[true, true, false, false, false, false, false, false, false, false, false, false, false, false, false, false, false, false, false, false, false, false, false, false, false, false, false, false, false, false, false, false, false, false, false] rfl rfl (by kernel_rfl) (fun _ _ _ h => h) (Or.inl ⟨by rfl, ?_⟩) ?_ ?_
        rotate_left
        · intro w'
          go_simp
          with_reducible rfl
        rotate_left
        · simp only [Act.put, List.setIfInBounds_toArray, List.set_cons_zero, List.set_cons_succ, i64_w, i32_w]
          rfl
        refine pure_ (i := 2) (N := some 130) (v := ?_) (a' := ?_) #[true, true, true, false, false, false, false, false, false, false, false, false, false, false, false, false, false, false, false, false, false, false, false, false, false, false, false, false, false, false, false, false, false, false, false] rfl rfl (by kernel_rfl) (fun _ _ _ h => h) (Or.inl ⟨by rfl, ?_⟩) ?_ ?_
        rotate_left
        · intro w'
          go_simp
          with_reducible rfl
        rotate_left
        · simp only [Act.put, List.setIfInBounds_toArray, List.set_cons_zero, List.set_cons_succ, i64_w, i32_w]
          rfl
        refine pure_ (i := 3) (N := some 131) (v := ?_) (a' := ?_) #[true, true, true, true, false, false, false, false, false, false, false, false, false, false, false, false, false, false, false, false, false, false, false, false, false, false, false, false, false, false, false, false, false, false, false] rfl rfl (by kernel_rfl) (fun _ _ _ h => h) (Or.inl ⟨by rfl, ?_⟩) ?_ ?_
        rotate_left
        · intro w'
          go_simp
          with_reducible rfl
        rotate_left
        · simp only [Act.put, List.setIfInBounds_toArray, List.set_cons_zero, List.set_cons_succ, i64_w, i32_w]
          rfl
        refine pure_ (i := 4) (N := some 132) (v := ?_) (a' := ?_) #[true, true, true, true, true, false, false, false, false, false, false, false, false, false, false, false, false, false, false, false, false, false, false, false, false, false, false, false, false, false, false, false, false, false, false] rfl rfl (by kernel_rfl) (fun _ _ _ h => h) (Or.inl ⟨by rfl, ?_⟩) ?_ ?_
        rotate_left
        · intro w'
          go_simp
          with_reducible rfl
        rotate_left
        · simp only [Act.put, List.setIfInBounds_toArray, List.set_cons_zero, List.set_cons_succ, i64_w, i32_w]
          rfl
        refine pure_ (i := 5) (N := some 133) (v := ?_) (a' := ?_) #[true, true, true, true, true, true, false, false, false, false, false, false, false, false, false, false, false, false, false, false, false, false, false, false, false, false, false, false, false, false, false, false, false, false, false] rfl rfl (by kernel_rfl) (fun _ _ _ h => h) (Or.inl ⟨by rfl, ?_⟩) ?_ ?_
        rotate_left
        · intro w'
          go_simp
          with_reducible rfl
        rotate_left
        · simp only [Act.put, List.setIfInBounds_toArray, List.set_cons_zero, List.set_cons_succ, i64_w, i32_w]
          rfl
        refine pure_ (i := 6) (N := some 134) (v := ?_) (a' := ?_) #[true, true, true, true, true, true, true, false, false, false, false, false, false, false, false, false, false, false, false, false, false, false, false, false, false, false, false, false, false, false, false, false, false, false, false] rfl rfl (by kernel_rfl) (fun _ _ _ h => h) (Or.inl ⟨by rfl, ?_⟩) ?_ ?_
        rotate_left
        · intro w'
          go_simp
          with_reducible rfl
        rotate_left
        · simp only [Act.put, List.setIfInBounds_toArray, List.set_cons_zero, List.set_cons_succ, i64_w, i32_w]
          rfl
        refine pure_ (i := 7) (N := some 135) (v := ?_) (a' := ?_) #[true, true, true, true, true, true, true, true, false, false, false, false, false, false, false, false, false, false, false, false, false, false, false, false, false, false, false, false, false, false, false, false, false, false, false] rfl rfl (by kernel_rfl) (fun _ _ _ h => h) (Or.inl ⟨by rfl, ?_⟩) ?_ ?_
        rotate_left
        · intro w'
          go_simp
          with_reducible rfl
        rotate_left
        · simp only [Act.put, List.setIfInBounds_toArray, List.set_cons_zero, List.set_cons_succ, i64_w, i32_w]
          rfl
        refine pure_ (i := 8) (N := some 136) (v := ?_) (a' := ?_) #[true, true, true, true, true, true, true, true, true, false, false, false, false, false, false, false, false, false, false, false, false, false, false, false, false, false, false, false, false, false, false, false, false, false, false] rfl rfl (by kernel_rfl) (fun _ _ _ h => h) (Or.inl ⟨by rfl, ?_⟩) ?_ ?_
        rotate_left
        · intro w'
          go_simp
          with_reducible rfl
        rotate_left
        · simp only [Act.put, List.setIfInBounds_toArray, List.set_cons_zero, List.set_cons_succ, i64_w, i32_w]
          rfl
        refine pure_ (i := 9) (N := some 137) (v := ?_) (a' := ?_) #[true, true, true, true, true, true, true, true, true, true, false, false, false, false, false, false, false, false, false, false, false, false, false, false, false, false, false, false, false, false, false, false, false, false, false] rfl rfl (by kernel_rfl) (fun _ _ _ h => h) (Or.inl ⟨by rfl, ?_⟩) ?_ ?_
        rotate_left
        · intro w'
          go_simp
          with_reducible rfl
        rotate_left
        · simp only [Act.put, List.setIfInBounds_toArray, List.set_cons_zero, List.set_cons_succ, i64_w, i32_w]
          rfl
        refine pure_ (i := 10) (N := some 138) (v := ?_) (a' := ?_) #[true, true, true, true, true, true, true, true, true, true, true, false, false, false, false, false, false, false, false, false, false, false, false, false, false, false, false, false, false, false, false, false, false, false, false] rfl rfl (by kernel_rfl) (fun _ _ _ h => h) (Or.inl ⟨by rfl, ?_⟩) ?_ ?_
        rotate_left
        · intro w'
          go_simp
          with_reducible rfl
        rotate_left
        · simp only [Act.put, List.setIfInBounds_toArray, List.set_cons_zero, List.set_cons_succ, i64_w, i32_w]
          rfl
        refine pure_ (i := 11) (N := some 139) (v := ?_) (a' := ?_) #[true, true, true, true, true, true, true, true, true, true, true, true, false, false, false, false, false, false, false, false, false, false, false, false, false, false, false, false, false, false, false, false, false, false, false] rfl rfl (by kernel_rfl) (fun _ _ _ h => h) (Or.inl ⟨by rfl, ?_⟩) ?_ ?_
        rotate_left
        · intro w'
          go_simp
          with_reducible rfl
        rotate_left
        · simp only [Act.put, List.setIfInBounds_toArray, List.set_cons_zero, List.set_cons_succ, i64_w, i32_w]
          rfl
        refine pure_ (i := 12) (N := some 140) (v := ?_) (a' := ?_) #[true, true, true, true, true, true, true, true, true, true, true, true, true, false, false, false, false, false, false, false, false, false, false, false, false, false, false, false, false, false, false, false, false, false, false] rfl rfl (by kernel_rfl) (fun _ _ _ h => h) (Or.inl ⟨by rfl, ?_⟩) ?_ ?_
        rotate_left
        · intro w'
          go_simp
          with_reducible rfl
        rotate_left
        · simp only [Act.put, List.setIfInBounds_toArray, List.set_cons_zero, List.set_cons_succ, i64_w, i32_w]
          rfl
        refine pure_ (i := 13) (N := some 141) (v := ?_) (a' := ?_) #[true, true, true, true, true, true, true, true, true, true, true, true, true, true, false, false, false, false, false, false, false, false, false, false, false, false, false, false, false, false, false, false, false, false, false] rfl rfl (by kernel_rfl) (fun _ _ _ h => h) (Or.inl ⟨by rfl, ?_⟩) ?_ ?_
        rotate_left
        · intro w'
          go_simp
          with_reducible rfl
        rotate_left
        · simp only [Act.put, List.setIfInBounds_toArray, List.set_cons_zero, List.set_cons_succ, i64_w, i32_w]
          rfl
        refine take_ (i := 14) (N := some 142) (v := ?_) (a' := ?_) #[true, true, true, true, true, true, true, true, true, true, true, true, true, true, true, false, false, false, false, false, false, false, false, false, false, false, false, false, false, false, false, false, false, false, false] rfl rfl (by kernel_rfl) (fun _ _ _ h => h) (Or.inl ⟨by rfl, ?_⟩) hHeld ?_ ?_
        rotate_left
        · rintro w' ⟨s0, s1, s2, s3⟩
          go_simp
          with_reducible rfl
        rotate_left
        · simp only [Act.put, List.setIfInBounds_toArray, List.set_cons_zero, List.set_cons_succ, i64_w, i32_w]
          rfl
        refine pure_ (i := 15) (N := some 143) (v := ?_) (a' := ?_) #[true, true, true, true, true, true, true, true, true, true, true, true, true, true, true, true, false, false, false, false, false, false, false, false, false, false, false, false, false, false, false, false, false, false, false] rfl rfl (by kernel_rfl) (fun _ _ _ h => h) (Or.inl ⟨by rfl, ?_⟩) ?_ ?_
        rotate_left
        · intro w'
          go_simp
          with_reducible rfl
        rotate_left
        · simp only [Act.put, List.setIfInBounds_toArray, List.set_cons_zero, List.set_cons_succ, i64_w, i32_w]
          rfl
        refine pure_ (i := 16) (N := some 144) (v := ?_) (a' := ?_) #[true, true, true, true, true, true, true, true, true, true, true, true, true, true, true, true, true, false, false, false, false, false, false, false, false, false, false, false, false, false, false, false, false, false, false] rfl rfl (by kernel_rfl) (fun _ _ _ h => h) (Or.inl ⟨by rfl, ?_⟩) ?_ ?_
        rotate_left
        · intro w'
          go_simp
          with_reducible rfl
        rotate_left
        · simp only [Act.put, List.setIfInBounds_toArray, List.set_cons_zero, List.set_cons_succ, i64_w, i32_w]
          rfl
        refine pure_ (i := 17) (N := some 145) (v := ?_) (a' := ?_) #[true, true, true, true, true, true, true, true, true, true, true, true, true, true, true, true, true, true, false, false, false, false, false, false, false, false, false, false, false, false, false, false, false, false, false] rfl rfl (by kernel_rfl) (fun _ _ _ h => h) (Or.inl ⟨by rfl, ?_⟩) ?_ ?_
        rotate_left
        · intro w'
          go_simp
          with_reducible rfl
        rotate_left
        · simp only [Act.put, List.setIfInBounds_toArray, List.set_cons_zero, List.set_cons_succ, i64_w, i32_w]
          rfl
        refine pure_ (i := 18) (N := some 146) (v := ?_) (a' := ?_) #[true, true, true, true, true, true, true, true, true, true, true, true, true, true, true, true, true, true, true, false, false, false, false, false, false, false, false, false, false, false, false, false, false, false, false] rfl rfl (by kernel_rfl) (fun _ _ _ h => h) (Or.inl ⟨by rfl, ?_⟩) ?_ ?_
        rotate_left
        · intro w'
          go_simp
          with_reducible rfl
        rotate_left
        · simp only [Act.put, List.setIfInBounds_toArray, List.set_cons_zero, List.set_cons_succ, i64_w, i32_w]
          rfl
        refine pure_ (i := 19) (N := some 147) (v := ?_) (a' := ?_) #[true, true, true, true, true, true, true, true, true, true, true, true, true, true, true, true, true, true, true, true, false, false, false, false, false, false, false, false, false, false, false, false, false, false, false] rfl rfl (by kernel_rfl) (fun _ _ _ h => h) (Or.inl ⟨by rfl, ?_⟩) ?_ ?_
        rotate_left
        · intro w'
          go_simp
          with_reducible rfl
        rotate_left
        · simp only [Act.put, List.setIfInBounds_toArray, List.set_cons_zero, List.set_cons_succ, i64_w, i32_w]
          rfl
        refine pure_ (i := 20) (N := some 148) (v := ?_) (a' := ?_) #[true, true, true, true, true, true, true, true, true, true, true, true, true, true, true, true, true, true, true, true, true, false, false, false, false, false, false, false, false, false, false, false, false, false, false] rfl rfl (by kernel_rfl) (fun _ _ _ h => h) (Or.inl ⟨by rfl, ?_⟩) ?_ ?_
        rotate_left
        · intro w'
          go_simp
          with_reducible rfl
        rotate_left
        · simp only [Act.put, List.setIfInBounds_toArray, List.set_cons_zero, List.set_cons_succ, i64_w, i32_w]
          rfl
        refine pure_ (i := 22) (N := some 150) (v := ?_) (a' := ?_) #[true, true, true, true, true, true, true, true, true, true, true, true, true, true, true, true, true, true, true, true, true, false, true, false, false, false, false, false, false, false, false, false, false, false, false] rfl rfl (by kernel_rfl) (fun _ _ _ h => h) (Or.inl ⟨by rfl, ?_⟩) ?_ ?_
        rotate_left
        · intro w'
          go_simp
          with_reducible rfl
        rotate_left
        · simp only [Act.put, List.setIfInBounds_toArray, List.set_cons_zero, List.set_cons_succ, i64_w, i32_w]
          rfl
        refine take_ (i := 21) (N := some 149) (v := ?_) (a' := ?_) #[true, true, true, true, true, true, true, true, true, true, true, true, true, true, true, true, true, true, true, true, true, true, true, false, false, false, false, false, false, false, false, false, false, false, false] rfl rfl (by kernel_rfl) (fun _ _ _ h => h) (Or.inl ⟨by rfl, ?_⟩) hHeld ?_ ?_
        rotate_left
        · rintro w' ⟨s0, s1, s2, s3⟩
          go_simp
          with_reducible rfl
        rotate_left
        · simp only [Act.put, List.setIfInBounds_toArray, List.set_cons_zero, List.set_cons_succ, i64_w, i32_w]
          rfl
        refine pure_ (i := 23) (N := some 151) (v := ?_) (a' := ?_) #[true, true, true, true, true, true, true, true, true, true, true, true, true, true, true, true, true, true, true, true, true, true, true, true, false, false, false, false, false, false, false, false, false, false, false] rfl rfl (by kernel_rfl) (fun _ _ _ h => h) (Or.inl ⟨by rfl, ?_⟩) ?_ ?_
        rotate_left
        · intro w'
          go_simp
          with_reducible rfl
        rotate_left
        · simp only [Act.put, List.setIfInBounds_toArray, List.set_cons_zero, List.set_cons_succ, i64_w, i32_w]
          rfl
        refine pure_ (i := 24) (N := some 152) (v := ?_) (a' := ?_) #[true, true, true, true, true, true, true, true, true, true, true, true, true, true, true, true, true, true, true, true, true, true, true, true, true, false, false, false, false, false, false, false, false, false, false] rfl rfl (by kernel_rfl) (fun _ _ _ h => h) (Or.inl ⟨by rfl, ?_⟩) ?_ ?_
        rotate_left
        · intro w'
          go_simp
          with_reducible rfl
        rotate_left
        · simp only [Act.put, List.setIfInBounds_toArray, List.set_cons_zero, List.set_cons_succ, i64_w, i32_w]
          rfl
        refine pure_ (i := 25) (N := some 153) (v := ?_) (a' := ?_) #[true, true, true, true, true, true, true, true, true, true, true, true, true, true, true, true, true, true, true, true, true, true, true, true, true, true, false, false, false, false, false, false, false, false, false] rfl rfl (by kernel_rfl) (fun _ _ _ h => h) (Or.inl ⟨by rfl, ?_⟩) ?_ ?_
        rotate_left
        · intro w'
          go_simp
          with_reducible rfl
        rotate_left
        · simp only [Act.put, List.setIfInBounds_toArray, List.set_cons_zero, List.set_cons_succ, i64_w, i32_w]
          rfl
        refine pure_ (i := 26) (N := some 154) (v := ?_) (a' := ?_) #[true, true, true, true, true, true, true, true, true, true, true, true, true, true, true, true, true, true, true, true, true, true, true, true, true, true, true, false, false, false, false, false, false, false, false] rfl rfl (by kernel_rfl) (fun _ _ _ h => h) (Or.inl ⟨by rfl, ?_⟩) ?_ ?_
        rotate_left
        · intro w'
          go_simp
          with_reducible rfl
        rotate_left
        · simp only [Act.put, List.setIfInBounds_toArray, List.set_cons_zero, List.set_cons_succ, i64_w, i32_w]
          rfl
        refine pure_ (i := 27) (N := some 155) (v := ?_) (a' := ?_) #[true, true, true, true, true, true, true, true, true, true, true, true, true, true, true, true, true, true, true, true, true, true, true, true, true, true, true, true, false, false, false, false, false, false, false] rfl rfl (by kernel_rfl) (fun _ _ _ h => h) (Or.inl ⟨by rfl, ?_⟩) ?_ ?_
        rotate_left
        · intro w'
          go_simp
          with_reducible rfl
        rotate_left
        · simp only [Act.put, List.setIfInBounds_toArray, List.set_cons_zero, List.set_cons_succ, i64_w, i32_w]
          rfl
        refine pure_ (i := 28) (N := some 156) (v := ?_) (a' := ?_) #[true, true, true, true, true, true, true, true, true, true, true, true, true, true, true, true, true, true, true, true, true, true, true, true, true, true, true, true, true, false, false, false, false, false, false] rfl rfl (by kernel_rfl) (fun _ _ _ h => h) (Or.inl ⟨by rfl, ?_⟩) ?_ ?_
        rotate_left
        · intro w'
          go_simp
          with_reducible rfl
        rotate_left
        · simp only [Act.put, List.setIfInBounds_toArray, List.set_cons_zero, List.set_cons_succ, i64_w, i32_w]
          rfl
        refine pure_ (i := 29) (N := some 157) (v := ?_) (a' := ?_) #[true, true, true, true, true, true, true, true, true, true, true, true, true, true, true, true, true, true, true, true, true, true, true, true, true, true, true, true, true, true, false, false, false, false, false] rfl rfl (by kernel_rfl) (fun _ _ _ h => h) (Or.inl ⟨by rfl, ?_⟩) ?_ ?_
        rotate_left
        · intro w'
          go_simp
          with_reducible rfl
        rotate_left
        · simp only [Act.put, List.setIfInBounds_toArray, List.set_cons_zero, List.set_cons_succ, i64_w, i32_w]
          rfl
        refine pure_ (i := 31) (N := some 159) (v := ?_) (a' := ?_) #[true, true, true, true, true, true, true, true, true, true, true, true, true, true, true, true, true, true, true, true, true, true, true, true, true, true, true, true, true, true, false, true, false, false, false] rfl rfl (by kernel_rfl) (fun _ _ _ h => h) (Or.inl ⟨by rfl, ?_⟩) ?_ ?_
        rotate_left
        · intro w'
          go_simp
          with_reducible rfl
        rotate_left
        · simp only [Act.put, List.setIfInBounds_toArray, List.set_cons_zero, List.set_cons_succ, i64_w, i32_w]
          rfl
        refine take_ (i := 30) (N := some 158) (v := ?_) (a' := ?_) #[true, true, true, true, true, true, true, true, true, true, true, true, true, true, true, true, true, true, true, true, true, true, true, true, true, true, true, true, true, true, true, true, false, false, false] rfl rfl (by kernel_rfl) (fun _ _ _ h => h) (Or.inl ⟨by rfl, ?_⟩) hHeld ?_ ?_
        rotate_left
        · rintro w' ⟨s0, s1, s2, s3⟩
          go_simp
          with_reducible rfl
        rotate_left
        · simp only [Act.put, List.setIfInBounds_toArray, List.set_cons_zero, List.set_cons_succ, i64_w, i32_w]
          rfl
        refine take_ (i := 32) (N := some 160) (v := ?_) (a' := ?_) #[true, true, true, true, true, true, true, true, true, true, true, true, true, true, true, true, true, true, true, true, true, true, true, true, true, true, true, true, true, true, true, true, true, false, false] rfl rfl (by kernel_rfl) (fun _ _ _ h => h) (Or.inl ⟨by rfl, ?_⟩) hHeld ?_ ?_
        rotate_left
        · rintro w' ⟨s0, s1, s2, s3⟩
          go_simp
          with_reducible rfl
        rotate_left
        · simp only [Act.put, List.setIfInBounds_toArray, List.set_cons_zero, List.set_cons_succ, i64_w, i32_w]
          rfl
        refine pure_ (i := 33) (N := some 161) (v := ?_) (a' := ?_) #[true, true, true, true, true, true, true, true, true, true, true, true, true, true, true, true, true, true, true, true, true, true, true, true, true, true, true, true, true, true, true, true, true, true, false] rfl rfl (by kernel_rfl) (fun _ _ _ h => h) (Or.inl ⟨by rfl, ?_⟩) ?_ ?_
        rotate_left
        · intro w'
          go_simp
          with_reducible rfl
        rotate_left
        · simp only [Act.put, List.setIfInBounds_toArray, List.set_cons_zero, List.set_cons_succ, i64_w, i32_w]
          rfl
        refine pure_ (i := 34) (N := some 162) (v := ?_) (a' := ?_) #[true, true, true, true, true, true, true, true, true, true, true, true, true, true, true, true, true, true, true, true, true, true, true, true, true, true, true, true, true, true, true, true, true, true, true] rfl rfl (by kernel_rfl) (fun _ _ _ h => h) (Or.inl ⟨by rfl, ?_⟩) ?_ ?_
        rotate_left
        · intro w'
          go_simp
          with_reducible rfl
        rotate_left
        · simp only [Act.put, List.setIfInBounds_toArray, List.set_cons_zero, List.set_cons_succ, i64_w, i32_w]
          rfl
        refine done_ (by kernel_rfl) ?_
        have X1 := Aside0.mk (blk_drew X.out)
        have HB1 := Aside0.mk (below_drew HB.out)
        have H11 := Aside0.mk (Kd.C_drew H1.out)
        clear X HB H1 y0 y4 y6 x0 x2 x4
        have X := X1
        have HB := HB1
        have H1 := H11
        clear X1 HB1 H11
        obtain ⟨x0, _, x2, _, x4, _, _⟩ := cellsS X.out
        obtain ⟨ad, e0, _, _, _, z2, _⟩ := at_S (Kd.C_below HR.out HB.out) i.toNat (by omega) y HY.out
        obtain ⟨ad_, e0_, hall⟩ := all_S HR.out (by omega) HY.out
        rw [e0] at e0_
        cases e0_
        subst e0
        have HX := Aside0.mk hall
        clear hall
        have hd1 : decide (i < 0) = false := decide_eq_false (by omega)
        have hd2 : decide ((l.length : Int) ≤ i) = false := decide_eq_false (by omega)
        clear z2
        go_wp2_with (first
          | ((with_reducible refine gate_load 35 (.tmp 174) rfl ?_); refine load_Sw (.tmp 174) rfl (by rfl) (p := ad.add (i.toNat * 39)) rfl (HX.out _ HB.out) ?_)
          | (go_at_call 14; (with_reducible refine (late_any y idle now _).mono ?_); rintro e w1 ⟨he_, hb⟩; rw [HLA.out] at he_; subst he_; have H1 := Aside0.mk (Kd.C_below H1.out hb); have HB := Aside0.mk (below_step HB.out hb); have X := Aside0.mk (blk_below X.out hb); clear x0 x2 x4; obtain ⟨x0, _, x2, _, x4, _, _⟩ := cellsS X.out; obtain ⟨ad_, e0_, _, _, _, z2, _⟩ := at_S (Kd.C_below HR.out HB.out) i.toNat (by omega) y HY.out; cases e0_; clear hb)
          | (go_at_call 12; (with_reducible refine (find_any y.draw a (some aa) c1 _ H1.out).mono ?_); rintro e w1 ⟨he_, hb⟩; rw [HF3.out] at he_; subst he_; have HB := Aside0.mk (below_step HB.out hb); have X := Aside0.mk (blk_below X.out hb); clear x0 x2 x4; obtain ⟨x0, _, x2, _, x4, _, _⟩ := cellsS X.out; clear hb))
        go_ret
        exact ⟨rfl, HB.out⟩
      | true =>
        have hdn : ((n : Int) == 0) = false := by
          have h5 := hnf rfl
          have h6 : (l.length : Int) = 4 := by simpa using hq4
          simpa using (show ¬ ((n : Int) = 0) by omega)
        clear hnf hn3
        go_wp2_with (first
          | (with_reducible refine load_S (.tmp 6) rfl rfl (p := ⟨w.heap.size, 0, none⟩) rfl (cells_box X.out) ?_)
          | (go_at_call 15; (with_reducible refine (begin_any x idle now l A c _ (Kd.C_below HR.out HB.out) HC.out HL.out a 0 HA.out).mono ?_); rintro e w1 ⟨v, rfl, ho, hb⟩; obtain ⟨A1, c1, rfl, hc1, hC1⟩ := ho; have HC1 := Aside0.mk hc1; have H1 := Aside0.mk hC1; have HB := Aside0.mk (below_step HB.out hb); have X := Aside0.mk (blk_below X.out hb); clear x0 x2 x4; obtain ⟨x0, _, x2, _, x4, _, _⟩ := cellsS X.out; rw [HOP.out] at x4; clear hb hc1 hC1)
          | (go_at_call 12; (with_reducible refine (find_any x.draw l A c _ (Kd.C_below HR.out HB.out)).mono ?_); rintro e w1 ⟨he_, hb⟩; rw [HF.out] at he_; subst he_; have H1 := Aside0.mk (Kd.C_below H1.out hb); have HB := Aside0.mk (below_step HB.out hb); have X := Aside0.mk (blk_below X.out hb); clear x0 x2 x4; obtain ⟨x0, _, x2, _, x4, _, _⟩ := cellsS X.out; rw [HOP.out] at x4; clear hb)
          | (go_at_call 12; (with_reducible refine (find_any x.draw a A1 c1 _ H1.out).mono ?_); rintro e w1 ⟨he_, hb⟩; rw [HF2.out] at he_; subst he_; have H1 := Aside0.mk (Kd.C_below H1.out hb); have HB := Aside0.mk (below_step HB.out hb); have X := Aside0.mk (blk_below X.out hb); clear x0 x2 x4; obtain ⟨x0, _, x2, _, x4, _, _⟩ := cellsS X.out; rw [HOP.out] at x4; clear hb))
        obtain ⟨aa, ea, _, y0, _, _, _, y4, _, y6⟩ := at_S H1.out m (by have := HLA1.out; omega) { x with last := now } HAM.out
        subst ea
        rw [show ({ x with last := now } : Ses).isOpen = false from HOP.out] at y4
        have hmi : (m : Int) < (a.length : Int) := by have := HLA1.out; omega
        refine start_ (n := 35) (S := fun w' => w'.cell? ⟨(aa.add (m * 39)).block, (aa.add (m * 39)).off + 36, none⟩ = some (.bool false) ∧ w'.cell? ⟨(aa.add (m * 39)).block, (aa.add (m * 39)).off + 38, none⟩ = some (.int .i64 now) ∧ w'.cell? (aa.add (m * 39)) = some (.int .i64 x.user) ∧ w'.cell? ⟨w.heap.size, 0, none⟩ = some (.int .i64 x.user)) (ds := []) #[false, false, false, false, false, false, false, false, false, false, false, false, false, false, false, false, false, false, false, false, false, false, false, false, false, false, false, false, false, false, false, false, false, false, false] (by kernel_rfl) rfl rfl ⟨y4, y6, y0, x0⟩ (fun hHeld => ?_)
        refine pure_ (i := 0) (N := some 128) (v := ?_) (a' := ?_) #[true, false, false, false, false, false, false, false, false, false, false, false, false, false, false, false, false, false, false, false, false, false, false, false, false, false, false, false, false, false, false, false, false, false, false] rfl rfl (by kernel_rfl) (fun _ _ _ h => h) (Or.inl ⟨by rfl, ?_⟩) ?_ ?_
        rotate_left
        · intro w'
          go_simp
          with_reducible rfl
        rotate_left
        · simp only [Act.put, List.setIfInBounds_toArray, List.set_cons_zero, List.set_cons_succ, i64_w, i32_w]
          rfl
        refine pure_ (i := 1) (N := some 129) (v := ?_) (a' := ?_) #[true, true, false, false, false, false, false, false, false, false, false, false, false, false, false, false, false, false, false, false, false, false, false, false, false, false, false, false, false, false, false, false, false, false, false] rfl rfl (by kernel_rfl) (fun _ _ _ h => h) (Or.inl ⟨by rfl, ?_⟩) ?_ ?_
        rotate_left
        · intro w'
          go_simp
          with_reducible rfl
        rotate_left
        · simp only [Act.put, List.setIfInBounds_toArray, List.set_cons_zero, List.set_cons_succ, i64_w, i32_w]
          rfl
        refine pure_ (i := 2) (N := some 130) (v := ?_) (a' := ?_) #[true, true, true, false, false, false, false, false, false, false, false, false, false, false, false, false, false, false, false, false, false, false, false, false, false, false, false, false, false, false, false, false, false, false, false] rfl rfl (by kernel_rfl) (fun _ _ _ h => h) (Or.inl ⟨by rfl, ?_⟩) ?_ ?_
        rotate_left
        · intro w'
          go_simp
          with_reducible rfl
        rotate_left
        · simp only [Act.put, List.setIfInBounds_toArray, List.set_cons_zero, List.set_cons_succ, i64_w, i32_w]
          rfl
        refine pure_ (i := 3) (N := some 131) (v := ?_) (a' := ?_) #[true, true, true, true, false, false, false, false, false, false, false, false, false, false, false, false, false, false, false, false, false, false, false, false, false, false, false, false, false, false, false, false, false, false, false] rfl rfl (by kernel_rfl) (fun _ _ _ h => h) (Or.inl ⟨by rfl, ?_⟩) ?_ ?_
        rotate_left
        · intro w'
          go_simp
          with_reducible rfl
        rotate_left
        · simp only [Act.put, List.setIfInBounds_toArray, List.set_cons_zero, List.set_cons_succ, i64_w, i32_w]
          rfl
        refine pure_ (i := 4) (N := some 132) (v := ?_) (a' := ?_) #[true, true, true, true, true, false, false, false, false, false, false, false, false, false, false, false, false, false, false, false, false, false, false, false, false, false, false, false, false, false, false, false, false, false, false] rfl rfl (by kernel_rfl) (fun _ _ _ h => h) (Or.inl ⟨by rfl, ?_⟩) ?_ ?_
        rotate_left
        · intro w'
          go_simp
          with_reducible rfl
        rotate_left
        · simp only [Act.put, List.setIfInBounds_toArray, List.set_cons_zero, List.set_cons_succ, i64_w, i32_w]
          rfl
        refine pure_ (i := 5) (N := some 133) (v := ?_) (a' := ?_) #[true, true, true, true, true, true, false, false, false, false, false, false, false, false, false, false, false, false, false, false, false, false, false, false, false, false, false, false, false, false, false, false, false, false, false] rfl rfl (by kernel_rfl) (fun _ _ _ h => h) (Or.inl ⟨by rfl, ?_⟩) ?_ ?_
        rotate_left
        · intro w'
          go_simp
          with_reducible rfl
        rotate_left
        · simp only [Act.put, List.setIfInBounds_toArray, List.set_cons_zero, List.set_cons_succ, i64_w, i32_w]
          rfl
        refine pure_ (i := 6) (N := some 134) (v := ?_) (a' := ?_) #[true, true, true, true, true, true, true, false, false, false, false, false, false, false, false, false, false, false, false, false, false, false, false, false, false, false, false, false, false, false, false, false, false, false, false] rfl rfl (by kernel_rfl) (fun _ _ _ h => h) (Or.inl ⟨by rfl, ?_⟩) ?_ ?_
        rotate_left
        · intro w'
          go_simp
          with_reducible rfl
        rotate_left
        · simp only [Act.put, List.setIfInBounds_toArray, List.set_cons_zero, List.set_cons_succ, i64_w, i32_w]
          rfl
        refine pure_ (i := 7) (N := some 135) (v := ?_) (a' := ?_) #[true, true, true, true, true, true, true, true, false, false, false, false, false, false, false, false, false, false, false, false, false, false, false, false, false, false, false, false, false, false, false, false, false, false, false] rfl rfl (by kernel_rfl) (fun _ _ _ h => h) (Or.inl ⟨by rfl, ?_⟩) ?_ ?_
        rotate_left
        · intro w'
          go_simp
          with_reducible rfl
        rotate_left
        · simp only [Act.put, List.setIfInBounds_toArray, List.set_cons_zero, List.set_cons_succ, i64_w, i32_w]
          rfl
        refine pure_ (i := 8) (N := some 136) (v := ?_) (a' := ?_) #[true, true, true, true, true, true, true, true, true, false, false, false, false, false, false, false, false, false, false, false, false, false, false, false, false, false, false, false, false, false, false, false, false, false, false] rfl rfl (by kernel_rfl) (fun _ _ _ h => h) (Or.inl ⟨by rfl, ?_⟩) ?_ ?_
        rotate_left
        · intro w'
          go_simp
          with_reducible rfl
        rotate_left
        · simp only [Act.put, List.setIfInBounds_toArray, List.set_cons_zero, List.set_cons_succ, i64_w, i32_w]
          rfl
        refine pure_ (i := 9) (N := some 137) (v := ?_) (a' := ?_) #[true, true, true, true, true, true, true, true, true, true, false, false, false, false, false, false, false, false, false, false, false, false, false, false, false, false, false, false, false, false, false, false, false, false, false] rfl rfl (by kernel_rfl) (fun _ _ _ h => h) (Or.inl ⟨by rfl, ?_⟩) ?_ ?_
        rotate_left
        · intro w'
          go_simp
          with_reducible rfl
        rotate_left
        · simp only [Act.put, List.setIfInBounds_toArray, List.set_cons_zero, List.set_cons_succ, i64_w, i32_w]
          rfl
        refine pure_ (i := 10) (N := some 138) (v := ?_) (a' := ?_) #[true, true, true, true, true, true, true, true, true, true, true, false, false, false, false, false, false, false, false, false, false, false, false, false, false, false, false, false, false, false, false, false, false, false, false] rfl rfl (by kernel_rfl) (fun _ _ _ h => h) (Or.inl ⟨by rfl, ?_⟩) ?_ ?_
        rotate_left
        · intro w'
          go_simp
          with_reducible rfl
        rotate_left
        · simp only [Act.put, List.setIfInBounds_toArray, List.set_cons_zero, List.set_cons_succ, i64_w, i32_w]
          rfl
        refine pure_ (i := 11) (N := some 139) (v := ?_) (a' := ?_) #[true, true, true, true, true, true, true, true, true, true, true, true, false, false, false, false, false, false, false, false, false, false, false, false, false, false, false, false, false, false, false, false, false, false, false] rfl rfl (by kernel_rfl) (fun _ _ _ h => h) (Or.inl ⟨by rfl, ?_⟩) ?_ ?_
        rotate_left
        · intro w'
          go_simp
          with_reducible rfl
        rotate_left
        · simp only [Act.put, List.setIfInBounds_toArray, List.set_cons_zero, List.set_cons_succ, i64_w, i32_w]
          rfl
        refine pure_ (i := 12) (N := some 140) (v := ?_) (a' := ?_) #[true, true, true, true, true, true, true, true, true, true, true, true, true, false, false, false, false, false, false, false, false, false, false, false, false, false, false, false, false, false, false, false, false, false, false] rfl rfl (by kernel_rfl) (fun _ _ _ h => h) (Or.inl ⟨by rfl, ?_⟩) ?_ ?_
        rotate_left
        · intro w'
          go_simp
          with_reducible rfl
        rotate_left
        · simp only [Act.put, List.setIfInBounds_toArray, List.set_cons_zero, List.set_cons_succ, i64_w, i32_w]
          rfl
        refine pure_ (i := 13) (N := some 141) (v := ?_) (a' := ?_) #[true, true, true, true, true, true, true, true, true, true, true, true, true, true, false, false, false, false, false, false, false, false, false, false, false, false, false, false, false, false, false, false, false, false, false] rfl rfl (by kernel_rfl) (fun _ _ _ h => h) (Or.inl ⟨by rfl, ?_⟩) ?_ ?_
        rotate_left
        · intro w'
          go_simp
          with_reducible rfl
        rotate_left
        · simp only [Act.put, List.setIfInBounds_toArray, List.set_cons_zero, List.set_cons_succ, i64_w, i32_w]
          rfl
        refine take_ (i := 14) (N := some 142) (v := ?_) (a' := ?_) #[true, true, true, true, true, true, true, true, true, true, true, true, true, true, true, false, false, false, false, false, false, false, false, false, false, false, false, false, false, false, false, false, false, false, false] rfl rfl (by kernel_rfl) (fun _ _ _ h => h) (Or.inl ⟨by rfl, ?_⟩) hHeld ?_ ?_
        rotate_left
        · rintro w' ⟨s0, s1, s2, s3⟩
          go_simp
          with_reducible rfl
        rotate_left
        · simp only [Act.put, List.setIfInBounds_toArray, List.set_cons_zero, List.set_cons_succ, i64_w, i32_w]
          rfl
        refine pure_ (i := 15) (N := some 143) (v := ?_) (a' := ?_) #[true, true, true, true, true, true, true, true, true, true, true, true, true, true, true, true, false, false, false, false, false, false, false, false, false, false, false, false, false, false, false, false, false, false, false] rfl rfl (by kernel_rfl) (fun _ _ _ h => h) (Or.inl ⟨by rfl, ?_⟩) ?_ ?_
        rotate_left
        · intro w'
          go_simp
          with_reducible rfl
        rotate_left
        · simp only [Act.put, List.setIfInBounds_toArray, List.set_cons_zero, List.set_cons_succ, i64_w, i32_w]
          rfl
        refine pure_ (i := 16) (N := some 144) (v := ?_) (a' := ?_) #[true, true, true, true, true, true, true, true, true, true, true, true, true, true, true, true, true, false, false, false, false, false, false, false, false, false, false, false, false, false, false, false, false, false, false] rfl rfl (by kernel_rfl) (fun _ _ _ h => h) (Or.inl ⟨by rfl, ?_⟩) ?_ ?_
        rotate_left
        · intro w'
          go_simp
          with_reducible rfl
        rotate_left
        · simp only [Act.put, List.setIfInBounds_toArray, List.set_cons_zero, List.set_cons_succ, i64_w, i32_w]
          rfl
        refine pure_ (i := 17) (N := some 145) (v := ?_) (a' := ?_) #[true, true, true, true, true, true, true, true, true, true, true, true, true, true, true, true, true, true, false, false, false, false, false, false, false, false, false, false, false, false, false, false, false, false, false] rfl rfl (by kernel_rfl) (fun _ _ _ h => h) (Or.inl ⟨by rfl, ?_⟩) ?_ ?_
        rotate_left
        · intro w'
          go_simp
          with_reducible rfl
        rotate_left
        · simp only [Act.put, List.setIfInBounds_toArray, List.set_cons_zero, List.set_cons_succ, i64_w, i32_w]
          rfl
        refine pure_ (i := 18) (N := some 146) (v := ?_) (a' := ?_) #[true, true, true, true, true, true, true, true, true, true, true, true, true, true, true, true, true, true, true, false, false, false, false, false, false, false, false, false, false, false, false, false, false, false, false] rfl rfl (by kernel_rfl) (fun _ _ _ h => h) (Or.inl ⟨by rfl, ?_⟩) ?_ ?_
        rotate_left
        · intro w'
          go_simp
          with_reducible rfl
        rotate_left
        · simp only [Act.put, List.setIfInBounds_toArray, List.set_cons_zero, List.set_cons_succ, i64_w, i32_w]
          rfl
        refine pure_ (i := 19) (N := some 147) (v := ?_) (a' := ?_) #[true, true, true, true, true, true, true, true, true, true, true, true, true, true, true, true, true, true, true, true, false, false, false, false, false, false, false, false, false, false, false, false, false, false, false] rfl rfl (by kernel_rfl) (fun _ _ _ h => h) (Or.inl ⟨by rfl, ?_⟩) ?_ ?_
        rotate_left
        · intro w'
          go_simp
          with_reducible rfl
        rotate_left
        · simp only [Act.put, List.setIfInBounds_toArray, List.set_cons_zero, List.set_cons_succ, i64_w, i32_w]
          rfl
        refine pure_ (i := 20) (N := some 148) (v := ?_) (a' := ?_) #[true, true, true, true, true, true, true, true, true, true, true, true, true, true, true, true, true, true, true, true, true, false, false, false, false, false, false, false, false, false, false, false, false, false, false] rfl rfl (by kernel_rfl) (fun _ _ _ h => h) (Or.inl ⟨by rfl, ?_⟩) ?_ ?_
        rotate_left
        · intro w'
          go_simp
          with_reducible rfl
        rotate_left
        · simp only [Act.put, List.setIfInBounds_toArray, List.set_cons_zero, List.set_cons_succ, i64_w, i32_w]
          rfl
        refine pure_ (i := 22) (N := some 150) (v := ?_) (a' := ?_) #[true, true, true, true, true, true, true, true, true, true, true, true, true, true, true, true, true, true, true, true, true, false, true, false, false, false, false, false, false, false, false, false, false, false, false] rfl rfl (by kernel_rfl) (fun _ _ _ h => h) (Or.inl ⟨by rfl, ?_⟩) ?_ ?_
        rotate_left
        · intro w'
          go_simp
          with_reducible rfl
        rotate_left
        · simp only [Act.put, List.setIfInBounds_toArray, List.set_cons_zero, List.set_cons_succ, i64_w, i32_w]
          rfl
        refine take_ (i := 21) (N := some 149) (v := ?_) (a' := ?_) #[true, true, true, true, true, true, true, true, true, true, true, true, true, true, true, true, true, true, true, true, true, true, true, false, false, false, false, false, false, false, false, false, false, false, false] rfl rfl (by kernel_rfl) (fun _ _ _ h => h) (Or.inl ⟨by rfl, ?_⟩) hHeld ?_ ?_
        rotate_left
        · rintro w' ⟨s0, s1, s2, s3⟩
          go_simp
          with_reducible rfl
        rotate_left
        · simp only [Act.put, List.setIfInBounds_toArray, List.set_cons_zero, List.set_cons_succ, i64_w, i32_w]
          rfl
        refine pure_ (i := 23) (N := some 151) (v := ?_) (a' := ?_) #[true, true, true, true, true, true, true, true, true, true, true, true, true, true, true, true, true, true, true, true, true, true, true, true, false, false, false, false, false, false, false, false, false, false, false] rfl rfl (by kernel_rfl) (fun _ _ _ h => h) (Or.inl ⟨by rfl, ?_⟩) ?_ ?_
        rotate_left
        · intro w'
          go_simp
          with_reducible rfl
        rotate_left
        · simp only [Act.put, List.setIfInBounds_toArray, List.set_cons_zero, List.set_cons_succ, i64_w, i32_w]
          rfl
        refine pure_ (i := 24) (N := some 152) (v := ?_) (a' := ?_) #[true, true, true, true, true, true, true, true, true, true, true, true, true, true, true, true, true, true, true, true, true, true, true, true, true, false, false, false, false, false, false, false, false, false, false] rfl rfl (by kernel_rfl) (fun _ _ _ h => h) (Or.inl ⟨by rfl, ?_⟩) ?_ ?_
        rotate_left
        · intro w'
          go_simp
          with_reducible rfl
        rotate_left
        · simp only [Act.put, List.setIfInBounds_toArray, List.set_cons_zero, List.set_cons_succ, i64_w, i32_w]
          rfl
        refine pure_ (i := 25) (N := some 153) (v := ?_) (a' := ?_) #[true, true, true, true, true, true, true, true, true, true, true, true, true, true, true, true, true, true, true, true, true, true, true, true, true, true, false, false, false, false, false, false, false, false, false] rfl rfl (by kernel_rfl) (fun _ _ _ h => h) (Or.inl ⟨by rfl, ?_⟩) ?_ ?_
        rotate_left
        · intro w'
          go_simp
          with_reducible rfl
        rotate_left
        · simp only [Act.put, List.setIfInBounds_toArray, List.set_cons_zero, List.set_cons_succ, i64_w, i32_w]
          rfl
        refine pure_ (i := 26) (N := some 154) (v := ?_) (a' := ?_) #[true, true, true, true, true, true, true, true, true, true, true, true, true, true, true, true, true, true, true, true, true, true, true, true, true, true, true, false, false, false, false, false, false, false, false] rfl rfl (by kernel_rfl) (fun _ _ _ h => h) (Or.inl ⟨by rfl, ?_⟩) ?_ ?_
        rotate_left
        · intro w'
          go_simp
          with_reducible rfl
        rotate_left
        · simp only [Act.put, List.setIfInBounds_toArray, List.set_cons_zero, List.set_cons_succ, i64_w, i32_w]
          rfl
        refine pure_ (i := 27) (N := some 155) (v := ?_) (a' := ?_) #[true, true, true, true, true, true, true, true, true, true, true, true, true, true, true, true, true, true, true, true, true, true, true, true, true, true, true, true, false, false, false, false, false, false, false] rfl rfl (by kernel_rfl) (fun _ _ _ h => h) (Or.inl ⟨by rfl, ?_⟩) ?_ ?_
        rotate_left
        · intro w'
          go_simp
          with_reducible rfl
        rotate_left
        · simp only [Act.put, List.setIfInBounds_toArray, List.set_cons_zero, List.set_cons_succ, i64_w, i32_w]
          rfl
        refine pure_ (i := 28) (N := some 156) (v := ?_) (a' := ?_) #[true, true, true, true, true, true, true, true, true, true, true, true, true, true, true, true, true, true, true, true, true, true, true, true, true, true, true, true, true, false, false, false, false, false, false] rfl rfl (by kernel_rfl) (fun _ _ _ h => h) (Or.inl ⟨by rfl, ?_⟩) ?_ ?_
        rotate_left
        · intro w'
          go_simp
          with_reducible rfl
        rotate_left
        · simp only [Act.put, List.setIfInBounds_toArray, List.set_cons_zero, List.set_cons_succ, i64_w, i32_w]
          rfl
        refine pure_ (i := 29) (N := some 157) (v := ?_) (a' := ?_) #[true, true, true, true, true, true, true, true, true, true, true, true, true, true, true, true, true, true, true, true, true, true, true, true, true, true, true, true, true, true, false, false, false, false, false] rfl rfl (by kernel_rfl) (fun _ _ _ h => h) (Or.inl ⟨by rfl, ?_⟩) ?_ ?_
        rotate_left
        · intro w'
          go_simp
          with_reducible rfl
        rotate_left
        · simp only [Act.put, List.setIfInBounds_toArray, List.set_cons_zero, List.set_cons_succ, i64_w, i32_w]
          rfl
        refine pure_ (i := 31) (N := some 159) (v := ?_) (a' := ?_) #[true, true, true, true, true, true, true, true, true, true, true, true, true, true, true, true, true, true, true, true, true, true, true, true, true, true, true, true, true, true, false, true, false, false, false] rfl rfl (by kernel_rfl) (fun _ _ _ h => h) (Or.inl ⟨by rfl, ?_⟩) ?_ ?_
        rotate_left
        · intro w'
          go_simp
          with_reducible rfl
        rotate_left
        · simp only [Act.put, List.setIfInBounds_toArray, List.set_cons_zero, List.set_cons_succ, i64_w, i32_w]
          rfl
        refine take_ (i := 30) (N := some 158) (v := ?_) (a' := ?_) #[true, true, true, true, true, true, true, true, true, true, true, true, true, true, true, true, true, true, true, true, true, true, true, true, true, true, true, true, true, true, true, true, false, false, false] rfl rfl (by kernel_rfl) (fun _ _ _ h => h) (Or.inl ⟨by rfl, ?_⟩) hHeld ?_ ?_
        rotate_left
        · rintro w' ⟨s0, s1, s2, s3⟩
          go_simp
          with_reducible rfl
        rotate_left
        · simp only [Act.put, List.setIfInBounds_toArray, List.set_cons_zero, List.set_cons_succ, i64_w, i32_w]
          rfl
        refine take_ (i := 32) (N := some 160) (v := ?_) (a' := ?_) #[true, true, true, true, true, true, true, true, true, true, true, true, true, true, true, true, true, true, true, true, true, true, true, true, true, true, true, true, true, true, true, true, true, false, false] rfl rfl (by kernel_rfl) (fun _ _ _ h => h) (Or.inl ⟨by rfl, ?_⟩) hHeld ?_ ?_
        rotate_left
        · rintro w' ⟨s0, s1, s2, s3⟩
          go_simp
          with_reducible rfl
        rotate_left
        · simp only [Act.put, List.setIfInBounds_toArray, List.set_cons_zero, List.set_cons_succ, i64_w, i32_w]
          rfl
        refine pure_ (i := 33) (N := some 161) (v := ?_) (a' := ?_) #[true, true, true, true, true, true, true, true, true, true, true, true, true, true, true, true, true, true, true, true, true, true, true, true, true, true, true, true, true, true, true, true, true, true, false] rfl rfl (by kernel_rfl) (fun _ _ _ h => h) (Or.inl ⟨by rfl, ?_⟩) ?_ ?_
        rotate_left
        · intro w'
          go_simp
          with_reducible rfl
        rotate_left
        · simp only [Act.put, List.setIfInBounds_toArray, List.set_cons_zero, List.set_cons_succ, i64_w, i32_w]
          rfl
        refine pure_ (i := 34) (N := some 162) (v := ?_) (a' := ?_) #[true, true, true, true, true, true, true, true, true, true, true, true, true, true, true, true, true, true, true, true, true, true, true, true, true, true, true, true, true, true, true, true, true, true, true] rfl rfl (by kernel_rfl) (fun _ _ _ h => h) (Or.inl ⟨by rfl, ?_⟩) ?_ ?_
        rotate_left
        · intro w'
          go_simp
          with_reducible rfl
        rotate_left
        · simp only [Act.put, List.setIfInBounds_toArray, List.set_cons_zero, List.set_cons_succ, i64_w, i32_w]
          rfl
        refine done_ (by kernel_rfl) ?_
        have X1 := Aside0.mk (blk_drew X.out)
        have HB1 := Aside0.mk (below_drew HB.out)
        have H11 := Aside0.mk (Kd.C_drew H1.out)
        clear X HB H1 y0 y4 y6 x0 x2 x4
        have X := X1
        have HB := HB1
        have H1 := H11
        clear X1 HB1 H11
        obtain ⟨x0, _, x2, _, x4, _, _⟩ := cellsS X.out
        obtain ⟨ad, e0, _, _, _, z2, _⟩ := at_S (Kd.C_below HR.out HB.out) i.toNat (by omega) y HY.out
        obtain ⟨ad_, e0_, hall⟩ := all_S HR.out (by omega) HY.out
        rw [e0] at e0_
        cases e0_
        subst e0
        have HX := Aside0.mk hall
        clear hall
        have hd1 : decide (i < 0) = false := decide_eq_false (by omega)
        have hd2 : decide ((l.length : Int) ≤ i) = false := decide_eq_false (by omega)
        clear z2
        go_wp2_with (first
          | ((with_reducible refine gate_load 35 (.tmp 174) rfl ?_); refine load_Sw (.tmp 174) rfl (by rfl) (p := ad.add (i.toNat * 39)) rfl (HX.out _ HB.out) ?_)
          | (go_at_call 14; (with_reducible refine (late_any y idle now _).mono ?_); rintro e w1 ⟨he_, hb⟩; rw [HLA.out] at he_; subst he_; have H1 := Aside0.mk (Kd.C_below H1.out hb); have HB := Aside0.mk (below_step HB.out hb); have X := Aside0.mk (blk_below X.out hb); clear x0 x2 x4; obtain ⟨x0, _, x2, _, x4, _, _⟩ := cellsS X.out; obtain ⟨ad_, e0_, _, _, _, z2, _⟩ := at_S (Kd.C_below HR.out HB.out) i.toNat (by omega) y HY.out; cases e0_; clear hb)
          | (go_at_call 12; (with_reducible refine (find_any y.draw a (some aa) c1 _ H1.out).mono ?_); rintro e w1 ⟨he_, hb⟩; rw [HF3.out] at he_; subst he_; have HB := Aside0.mk (below_step HB.out hb); have X := Aside0.mk (blk_below X.out hb); clear x0 x2 x4; obtain ⟨x0, _, x2, _, x4, _, _⟩ := cellsS X.out; clear hb))
        go_ret
        exact ⟨rfl, HB.out⟩
theorem find_snoc {p : List Ses} {x : Ses} (h : ∀ y ∈ p, y.draw ≠ x.draw) (n : Int) : findS (p ++ [{ x with last := n }]) x.draw = p.length := by
  refine idxS_at _ (x := { x with last := n }) (by simp) (fun y hy => ?_) (by simp)
  rw [List.take_left] at hy
  simpa using h y hy
theorem find_mem {l : List Ses} {y : Ses} (h : y ∈ l) : 0 ≤ findS l y.draw := by
  have hge := findS_ge l y.draw
  by_cases hn : findS l y.draw = -1
  · exact absurd rfl ((findS_none_iff _ _).1 hn y h)
  · omega
theorem may_one {x : Ses} (h : mayS [x] = true) : mayB x = true := ((mayS_iff _).1 h).1 x (by simp)
theorem sessRoom_any (l : List Ses) (A : Option Addr) (c : Nat) (x : Ses) (idle now i : Int) (w : World) (hr : kS.C w A l.length l) (hc : l.length ≤ c) (gl : l.length ≤ maxLen ∧ ∀ x ∈ l, GS x) (gx : GS x) (g2 : (Lit.int .i64 idle).wf = true) (g4 : (Lit.int .i64 now).wf = true) (g5 : (Lit.int .i64 i).wf = true) :
    Calls Try.prog 5 #[.slice A l.length c, .agg (sca x), .int .i64 idle, .int .i64 now, .int .i64 i] w fun e w' => e = .returned (.bool true) ∧ Below w.heap.size w w' := by
  by_cases hfew : l.length ≤ 8
  case neg => exact room_o1 l A c x idle now i w hr hc (decide_eq_false hfew)
  have hf := decide_eq_true hfew
  have hl : l.length < 1000000 := by omega
  cases hm : mayS l with
  | false => exact room_o2 l A c x idle now i w hr hc hf hm
  | true =>
  cases hm1 : mayS [x] with
  | false => exact room_o3 l A c x idle now i w hr hc hf hm hm1
  | true =>
  cases hop : x.isOpen with
  | true => exact room_o4 l A c x idle now i w hr hc hf hm hm1 hop
  | false =>
  by_cases h1 : idle < 1
  · exact room_o5 l A c x idle now i w hr hc hf hm hm1 hop h1
  by_cases h2 : 1048576 < idle
  · exact room_o6 l A c x idle now i w hr hc hf hm hm1 hop (by omega) h2
  by_cases h3 : now < 0
  · exact room_o7 l A c x idle now i w hr hc hf hm hm1 hop (by omega) (by omega) h3
  by_cases h4 : 1073741824 < now
  · exact room_o8 l A c x idle now i w hr hc hf hm hm1 hop (by omega) (by omega) (by omega) h4
  have h1 : 1 ≤ idle := by omega
  have h2 : idle ≤ 1048576 := by omega
  have h3 : 0 ≤ now := by omega
  have h4 : now ≤ 1073741824 := by omega
  have ht : timesB idle now = true := (times_iff' _ _).2 ⟨h1, h2, h3, h4⟩
  have hmb := may_one hm1
  have hmp := (mayS_iff l).1 hm
  have hge := findS_ge l x.draw
  obtain ⟨a, e, ha, cs⟩ := beginS_spec l x idle now
  rcases cs with ⟨rfl, rfl, h'⟩ | ⟨_, _, _, _, ⟨rfl, rfl, hn⟩ | ⟨hf0, ⟨rfl, rfl, h5, h6⟩ | ⟨rfl, hcs⟩⟩⟩
  · rcases h' with h' | h' | h' | h'
    · rw [hm] at h'; cases h'
    · rw [ht] at h'; cases h'
    · rw [hmb] at h'; cases h'
    · rw [hop] at h'; cases h'
  · exact room_w6 _ A c x idle now i w hr hc hf hm hm1 hop h1 h2 h3 h4 hl _ _ ha rfl (by omega)
  · exact room_w12 _ A c x idle now i w hr hc hf hm hm1 hop h1 h2 h3 h4 hl _ _ ha rfl (by omega) h5 h6
  · obtain ⟨p, rfl, hsub, hmem, hq⟩ : ∃ p : List Ses, a = p ++ [{ x with last := now }] ∧ (∀ y ∈ p, y ∈ l) ∧ (∀ y ∈ l, lateB y idle now = false → y ∈ p) ∧ (((l.length : Int) == 4) = true → (awakeS l idle now).length ≠ 4) := by
      rcases hcs with ⟨h5, h6, rfl⟩ | ⟨h5, rfl⟩
      · refine ⟨_, rfl, fun y hy => (List.mem_filter.1 hy).1, fun y hy hla => List.mem_filter.2 ⟨hy, by rw [hla]; rfl⟩, fun _ => h6⟩
      · refine ⟨_, rfl, fun y hy => hy, fun y hy _ => hy, fun h6 => ?_⟩
        have : (l.length : Int) = 4 := by simpa using h6
        omega
    have hnd : ∀ y ∈ p, y.draw ≠ x.draw := fun y hy => (findS_none_iff _ _).1 hf0 y (hsub y hy)
    have hfa := find_snoc hnd now
    have hlen : (p ++ [({ x with last := now } : Ses)]).length = p.length + 1 := by rw [List.length_append, List.length_singleton]
    have hpl : p.length < 1000000 := by
      have := beginS_len ha
      rw [hlen] at this
      omega
    have hat : (p ++ [({ x with last := now } : Ses)])[p.length]? = some { x with last := now } := by simp
    by_cases hi : i < 0
    · exact room_z1 l A c x idle now i w hr hc hf hm hm1 hop h1 h2 h3 h4 hl _ _ ha rfl (by omega) p.length hlen (by omega) hat hfa _ rfl hq hi
    by_cases hi2 : (l.length : Int) ≤ i
    · exact room_z2 l A c x idle now i w hr hc hf hm hm1 hop h1 h2 h3 h4 hl _ _ ha rfl (by omega) p.length hlen (by omega) hat hfa _ rfl hq (by omega) hi2
    obtain ⟨y, hy⟩ : ∃ y, l[i.toNat]? = some y := ⟨_, List.getElem?_eq_getElem (by omega)⟩
    cases hla : lateB y idle now with
    | true => exact room_z3 l A c x idle now i w hr hc hf hm hm1 hop h1 h2 h3 h4 hl _ _ ha rfl (by omega) p.length hlen (by omega) hat hfa _ rfl hq (by omega) (by omega) y hy hla
    | false =>
      have hin : y ∈ p ++ [({ x with last := now } : Ses)] := List.mem_append_left _ (hmem y (List.mem_of_getElem? hy) hla)
      exact room_z4 l A c x idle now i w hr hc hf hm hm1 hop h1 h2 h3 h4 hl _ _ ha rfl (by omega) p.length hlen (by omega) hat hfa _ rfl hq (by omega) (by omega) y hy hla _ rfl (find_mem hin)
end Go.Proofs.Ytmhphkclgdaajaa.P
