/- sess: may, Late; the closures. -/
import Derived.Test.YtmhphkclgdaajaaHSmall
namespace Go.Proofs.Ytmhphkclgdaajaa.P
open Go.RowKit Go.Lib Go.Proofs.YtmhphkclgdaajaaW.PrintWords Go.Proofs.YtmhphkclgdaajaaW.PrintLast Go.Proofs.YtmhphkclgdaajaaW.PrintMore
set_option linter.unusedVariables false
set_option linter.unusedSimpArgs false
theorem sca_at (x : Ses) : (sca x)[0]? = some (.int .i64 x.user) ∧ (sca x)[1]? = some (.int .i64 x.epoch) ∧ (sca x)[2]? = some (.int .u64 x.draw) ∧ (sca x)[3]? = some (.int .u64 x.cn) ∧
    (sca x)[36]? = some (.bool x.isOpen) ∧ (sca x)[37]? = some (.int .u64 x.count) ∧ (sca x)[38]? = some (.int .i64 x.last) := by
  obtain ⟨h0, h1, h2, h3, h4, h5, h6⟩ := scl_at x
  unfold sca
  simp only [List.getElem?_toArray]
  exact ⟨h0, h1, h2, h3, h4, h5, h6⟩
theorem below_box (w : World) (x : Ses) : Below w.heap.size w (w.alloc (.cells (sca x) 35)) := below_alloc (Below.refl _ _) _
set_option maxHeartbeats 1000000 in
theorem may_any (x : Ses) (w : World) : Calls Try.prog 32 #[.agg (sca x)] w fun e w' => e = .returned (.bool (mayB x)) ∧ Below w.heap.size w w' := by
  have e : mayB x = (inB x.user 1 255 && (inB x.epoch 0 1073741824 && (inB x.last 0 1073741824 && (x.isOpen || decide (x.count = 0))))) := rfl
  obtain ⟨q0, q1, q2, q3, q4, q5, q6⟩ := sca_at x
  have HB := Aside0.mk (below_box w x)
  rw [e]
  generalize h1 : inB x.user 1 255 = b1
  generalize h2 : inB x.epoch 0 1073741824 = b2
  generalize h3 : inB x.last 0 1073741824 = b3
  generalize h4 : x.isOpen = b4
  have c1 := fun w => (in_any x.user 1 255 w)
  have c2 := fun w => (in_any x.epoch 0 1073741824 w)
  have c3 := fun w => (in_any x.last 0 1073741824 w)
  rw [h1] at c1
  rw [h2] at c2
  rw [h3] at c3
  rw [h4] at q4
  have C1 := Aside0.mk c1
  have C2 := Aside0.mk c2
  have C3 := Aside0.mk c3
  clear c1 c2 c3 h1 h2 h3 h4 e
  cases b1 <;> cases b2 <;> cases b3 <;> cases b4
  all_goals
    go_enter Try.func32, Try.ntmps32
    go_wp2_with (first
      | (go_at_call 43; (with_reducible refine (C1.out _).mono ?_); rintro e w_ ⟨rfl, rfl⟩)
      | (go_at_call 43; (with_reducible refine (C2.out _).mono ?_); rintro e w_ ⟨rfl, rfl⟩)
      | (go_at_call 43; (with_reducible refine (C3.out _).mono ?_); rintro e w_ ⟨rfl, rfl⟩))
    go_ret
    exact ⟨rfl, HB.out⟩
set_option maxHeartbeats 1000000 in
theorem one_any (x : Ses) (w : World) : Calls Try.prog 38 #[.agg (sca x)] w fun e w' => e = .returned (.bool (mayB x)) ∧ Below w.heap.size w w' := by
  obtain ⟨q0, q1, q2, q3, q4, q5, q6⟩ := sca_at x
  have HB := Aside0.mk (below_box w x)
  have e : ∀ r, r = mayB x → Ending.returned (.bool r) = .returned (.bool (mayB x)) := fun r h => by rw [h]
  have HE := Aside0.mk e
  clear e
  cases h4 : x.isOpen
  all_goals
    have H4 := Aside0.mk h4
    rw [h4] at q4
    clear h4
    go_enter Try.func38, Try.ntmps38
    go_wp2
    all_goals
      go_ret
      refine ⟨HE.out _ ?_, HB.out⟩
      rw [Bool.eq_iff_iff]
      unfold mayB inB
      simp [H4.out]
      try omega
theorem late_any (x : Ses) (idle now : Int) (w : World) : Calls Try.prog 14 #[.agg (sca x), .int .i64 idle, .int .i64 now] w fun e w' => e = .returned (.bool (lateB x idle now)) ∧ Below w.heap.size w w' := by
  obtain ⟨q0, q1, q2, q3, q4, q5, q6⟩ := sca_at x
  have HB := Aside0.mk (below_box w x)
  have e : ∀ r, r = lateB x idle now → Ending.returned (.bool r) = .returned (.bool (lateB x idle now)) := fun r h => by rw [h]
  have HE := Aside0.mk e
  clear e
  cases h : timesB idle now
  · have H := Aside0.mk h
    have c := fun w => times_any idle now w
    rw [h] at c
    have C1 := Aside0.mk c
    clear c h
    go_enter Try.func14, Try.ntmps14
    go_wp2_with (go_at_call 33; (with_reducible refine (C1.out _).mono ?_); rintro e w_ ⟨rfl, rfl⟩)
    go_ret
    exact ⟨HE.out _ (by unfold lateB; rw [H.out]; rfl), HB.out⟩
  · have H := Aside0.mk h
    have c := fun w => times_any idle now w
    rw [h] at c
    have C1 := Aside0.mk c
    unfold timesB inB at h
    simp only [Bool.and_eq_true, decide_eq_true_eq] at h
    obtain ⟨⟨b1, b2⟩, b3, b4⟩ := h
    clear c
    go_enter Try.func14, Try.ntmps14
    go_wp2_with (go_at_call 33; (with_reducible refine (C1.out _).mono ?_); rintro e w_ ⟨rfl, rfl⟩)
    all_goals
      go_ret
      refine ⟨HE.out _ ?_, HB.out⟩
      rw [Bool.eq_iff_iff]
      unfold lateB
      simp [H.out]
      try omega
theorem rlate_any (x : Ses) (idle now : Int) (w : World) : Calls Try.prog 24 #[.agg (sca x), .int .i64 idle, .int .i64 now] w fun e w' => e = .returned (.bool (lateB x idle now)) ∧ Below w.heap.size w w' := by
  obtain ⟨q0, q1, q2, q3, q4, q5, q6⟩ := sca_at x
  have HB := Aside0.mk (below_box w x)
  have e : ∀ r, r = lateB x idle now → Ending.returned (.bool r) = .returned (.bool (lateB x idle now)) := fun r h => by rw [h]
  have HE := Aside0.mk e
  clear e
  cases h : timesB idle now
  · have H := Aside0.mk h
    have c := fun w => rtimes_any idle now w
    rw [h] at c
    have C1 := Aside0.mk c
    clear c h
    go_enter Try.func24, Try.ntmps24
    go_wp2_with (go_at_call 37; (with_reducible refine (C1.out _).mono ?_); rintro e w_ ⟨rfl, rfl⟩)
    go_ret
    exact ⟨HE.out _ (by unfold lateB; rw [H.out]; rfl), HB.out⟩
  · have H := Aside0.mk h
    have c := fun w => rtimes_any idle now w
    rw [h] at c
    have C1 := Aside0.mk c
    unfold timesB inB at h
    simp only [Bool.and_eq_true, decide_eq_true_eq] at h
    obtain ⟨⟨b1, b2⟩, b3, b4⟩ := h
    clear c
    go_enter Try.func24, Try.ntmps24
    go_wp2_with (go_at_call 37; (with_reducible refine (C1.out _).mono ?_); rintro e w_ ⟨rfl, rfl⟩)
    all_goals
      go_ret
      refine ⟨HE.out _ ?_, HB.out⟩
      rw [Bool.eq_iff_iff]
      unfold lateB
      simp [H.out]
      try omega
/-! #### the closures -/
theorem use1_any (x : Ses) (w : World) : Calls Try.prog 28 #[.agg (sca x)] w fun e w' => e = .returned (.bool x.isOpen) ∧ Below w.heap.size w w' := by
  obtain ⟨q0, q1, q2, q3, q4, q5, q6⟩ := sca_at x
  have HB := Aside0.mk (below_box w x)
  go_enter Try.func28, Try.ntmps28
  go_wp2
  go_ret
  exact ⟨rfl, HB.out⟩
theorem prove1_any (x : Ses) (w : World) : Calls Try.prog 39 #[.agg (sca x)] w fun e w' => e = .returned (.bool true) ∧ Below w.heap.size w w' := by
  have HB := Aside0.mk (below_box w x)
  go_enter Try.func39, Try.ntmps39
  go_wp2
  go_ret
  exact ⟨rfl, HB.out⟩
theorem find1_any (x : Ses) (p : Addr) (d : Int) (w : World) (hp : w.cell? p = some (.int .u64 d)) (hlt : p.block < w.heap.size) : Calls Try.prog 31 #[.agg (sca x), .pointer (some p)] w fun e w' => e = .returned (.bool (x.draw == d)) ∧ Below w.heap.size w w' := by
  obtain ⟨q0, q1, q2, q3, q4, q5, q6⟩ := sca_at x
  have HB := Aside0.mk (below_box w x)
  have hp1 : (w.alloc (.cells (sca x) 35)).cell? p = some (.int .u64 d) := by rw [← hp]; exact HB.out.cell hlt
  go_enter Try.func31, Try.ntmps31
  go_wp2
  go_ret
  exact ⟨rfl, HB.out⟩
theorem begin1_any (x : Ses) (p q : Addr) (idle now : Int) (w : World) (hp : w.cell? p = some (.int .i64 idle)) (hq : w.cell? q = some (.int .i64 now)) (hlt : p.block < w.heap.size) (hlt2 : q.block < w.heap.size) : Calls Try.prog 36 #[.agg (sca x), .pointer (some p), .pointer (some q)] w fun e w' => e = .returned (.bool (lateB x idle now)) ∧ Below w.heap.size w w' := by
  have HB := Aside0.mk (below_box w x)
  have hp1 : (w.alloc (.cells (sca x) 35)).cell? p = some (.int .i64 idle) := by rw [← hp]; exact HB.out.cell hlt
  have hq1 : (w.alloc (.cells (sca x) 35)).cell? q = some (.int .i64 now) := by rw [← hq]; exact HB.out.cell hlt2
  have hc := cells_box (blk_new w (.cells (sca x) 35))
  have HC := Aside0.mk hc
  clear hc
  go_enter Try.func36, Try.ntmps36
  go_wp2_with (first
    | (with_reducible refine load_S (.tmp 3) rfl rfl (p := ⟨w.heap.size, 0, none⟩) rfl HC.out ?_)
    | (go_at_call 14; (with_reducible refine (late_any x idle now _).mono ?_); rintro e w_ ⟨rfl, hb_⟩; have HB1 := Aside0.mk (below_step HB.out hb_); clear hb_))
  go_ret
  exact ⟨rfl, HB1.out⟩
end Go.Proofs.Ytmhphkclgdaajaa.P
