/- By hand: entry.May (a closure, called seven times). -/
import Derived.Test.YtphfejboahcnhaaPx0
namespace Go.Proofs.Ytphfejboahcnhaa.P
open Go.RowKit Go.Proofs.YtphfejboahcnhaaW.PrintWords Go.Proofs.YtphfejboahcnhaaW.PrintLast Go.Proofs.YtphfejboahcnhaaW.PrintMore
set_option linter.unusedVariables false
set_option linter.unusedSimpArgs false
/-- From nought to so many. -/
def inB (n m : Int) : Bool := decide (0 ≤ n) && decide (n ≤ m)
theorem inB_iff {n m : Int} : inB n m = true ↔ 0 ≤ n ∧ n ≤ m := by simp [inB]
def entry_May.f (a0_0 : Int) (a0_1 : Int) (a0_2 : Int) (a0_3 : Int) (a0_4 : Int) (a0_5 : Int) (a0_6 : Int) (a0_7 : Int) (a0_8 : Int) : Option (Bool) :=
  some (inB a0_0 4 && inB a0_1 1073741824 && inB a0_2 1073741824 && inB a0_3 255 && inB a0_6 255 && inB a0_7 65535 && inB a0_8 12)
set_option maxHeartbeats 400000 in
set_option maxRecDepth 100000 in
theorem in_calls (n m : Int) (b : Bool) (w : World) (h : inB n m = b) :
    Calls Try.prog 29 #[.int .i64 n, .int .i64 m] w fun e w' => e = .returned (.bool b) ∧ w' = w := by
  subst h
  by_cases h0 : 0 ≤ n
  · have e : inB n m = decide (n ≤ m) := by simp [inB, h0]
    rw [e]
    clear e
    go_enter Try.func29, Try.ntmps29
    go_wp2
    go_ret
    exact ⟨rfl, rfl⟩
  · have e : inB n m = false := by simp [inB, h0]
    rw [e]
    clear e
    have h2 : n < 0 := by omega
    clear h0
    go_enter Try.func29, Try.ntmps29
    go_wp2
    go_ret
    exact ⟨rfl, rfl⟩
set_option maxHeartbeats 1000000 in
set_option maxRecDepth 100000 in
theorem may_walk (a0_0 : Int) (a0_1 : Int) (a0_2 : Int) (a0_3 : Int) (a0_4 : Int) (a0_5 : Int) (a0_6 : Int) (a0_7 : Int) (a0_8 : Int) (b0 b1 b2 b3 b4 b5 b6 : Bool) (w : World)
    (h0 : Aside0 (inB a0_0 4 = b0)) (h1 : Aside0 (inB a0_1 1073741824 = b1)) (h2 : Aside0 (inB a0_2 1073741824 = b2)) (h3 : Aside0 (inB a0_3 255 = b3)) (h4 : Aside0 (inB a0_6 255 = b4)) (h5 : Aside0 (inB a0_7 65535 = b5)) (h6 : Aside0 (inB a0_8 12 = b6)) :
    Calls Try.prog 18 #[.agg #[.int .i64 a0_0, .int .i64 a0_1, .int .i64 a0_2, .int .i64 a0_3, .int .u64 a0_4, .int .u64 a0_5, .int .i64 a0_6, .int .i64 a0_7, .int .i64 a0_8]] w fun e w' => e = .returned (.bool (b0 && b1 && b2 && b3 && b4 && b5 && b6)) ∧ Below w.heap.size w w' := by
  have HB := Aside0.mk (below_alloc (Below.refl w.heap.size w) (.cells #[.int .i64 a0_0, .int .i64 a0_1, .int .i64 a0_2, .int .i64 a0_3, .int .u64 a0_4, .int .u64 a0_5, .int .i64 a0_6, .int .i64 a0_7, .int .i64 a0_8] 25 (0, 0)))
  go_enter Try.func18, Try.ntmps18
  go_wp2_with (first | (go_at_call 29; refine (in_calls _ _ _ _ (by first | exact h0.out | exact h1.out | exact h2.out | exact h3.out | exact h4.out | exact h5.out | exact h6.out)).mono ?_; rintro e w1 ⟨rfl, rfl⟩))
  all_goals go_ret
  all_goals refine ⟨?_, HB.out⟩
  all_goals clear h0 h1 h2 h3 h4 h5 h6 HB
  all_goals simp_all
theorem entry_May.calls (a0_0 : Int) (a0_1 : Int) (a0_2 : Int) (a0_3 : Int) (a0_4 : Int) (a0_5 : Int) (a0_6 : Int) (a0_7 : Int) (a0_8 : Int) (r : Bool) (w : World) (h : entry_May.f a0_0 a0_1 a0_2 a0_3 a0_4 a0_5 a0_6 a0_7 a0_8 = some r) :
    Calls Try.prog 18 #[.agg #[.int .i64 a0_0, .int .i64 a0_1, .int .i64 a0_2, .int .i64 a0_3, .int .u64 a0_4, .int .u64 a0_5, .int .i64 a0_6, .int .i64 a0_7, .int .i64 a0_8]] w fun e w' => e = .returned (.bool r) ∧ Below w.heap.size w w' := by
  obtain rfl := Option.some.inj h
  exact may_walk a0_0 a0_1 a0_2 a0_3 a0_4 a0_5 a0_6 a0_7 a0_8 _ _ _ _ _ _ _ w ⟨rfl⟩ ⟨rfl⟩ ⟨rfl⟩ ⟨rfl⟩ ⟨rfl⟩ ⟨rfl⟩ ⟨rfl⟩
end Go.Proofs.Ytphfejboahcnhaa.P
