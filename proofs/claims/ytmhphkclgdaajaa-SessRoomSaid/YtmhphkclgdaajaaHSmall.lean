/- sess: the small functions. -/
import Derived.Test.YtmhphkclgdaajaaHSesW
namespace Go.Proofs.Ytmhphkclgdaajaa.P
open Go.RowKit Go.Lib Go.Proofs.YtmhphkclgdaajaaW.PrintWords Go.Proofs.YtmhphkclgdaajaaW.PrintLast Go.Proofs.YtmhphkclgdaajaaW.PrintMore
set_option linter.unusedVariables false
set_option linter.unusedSimpArgs false
def inB (n a b : Int) : Bool := decide (a ≤ n) && decide (n ≤ b)
def timesB (idle now : Int) : Bool := inB idle 1 1048576 && inB now 0 1073741824
def mayB (x : Ses) : Bool := inB x.user 1 255 && (inB x.epoch 0 1073741824 && (inB x.last 0 1073741824 && (x.isOpen || decide (x.count = 0))))
def lateB (x : Ses) (idle now : Int) : Bool := timesB idle now && (decide (0 ≤ x.last) && decide (x.last ≤ now - idle))
theorem ret_bool {a b : Bool} (h : a = b) : Ending.returned (.bool a) = .returned (.bool b) := by rw [h]
theorem in_any (n a b : Int) (w : World) : Calls Try.prog 43 #[.int .i64 n, .int .i64 a, .int .i64 b] w fun e w' => e = .returned (.bool (inB n a b)) ∧ w = w' := by
  by_cases h1 : a ≤ n
  · by_cases h2 : n ≤ b
    · go_enter Try.func43, Try.ntmps43
      go_wp2
      go_ret
      exact ⟨ret_bool (by simp [inB, h1, h2]), rfl⟩
    · go_enter Try.func43, Try.ntmps43
      go_wp2
      go_ret
      exact ⟨ret_bool (by simp [inB, h1, h2]), rfl⟩
  · have h3 : decide (a ≤ n) = false := by simpa using h1
    go_enter Try.func43, Try.ntmps43
    go_wp2
    go_ret
    exact ⟨ret_bool (by simp [inB]; omega), rfl⟩
theorem times_any (idle now : Int) (w : World) : Calls Try.prog 33 #[.int .i64 idle, .int .i64 now] w fun e w' => e = .returned (.bool (timesB idle now)) ∧ w = w' := by
  have e : timesB idle now = (inB idle 1 1048576 && inB now 0 1073741824) := rfl
  rw [e]
  generalize h1 : inB idle 1 1048576 = b1
  generalize h2 : inB now 0 1073741824 = b2
  have c1 := fun w => (in_any idle 1 1048576 w)
  have c2 := fun w => (in_any now 0 1073741824 w)
  rw [h1] at c1
  rw [h2] at c2
  have C1 := Aside0.mk c1
  have C2 := Aside0.mk c2
  clear c1 c2 h1 h2 e
  cases b1
  all_goals
    go_enter Try.func33, Try.ntmps33
    go_wp2_with (first
      | (go_at_call 43; (with_reducible refine (C1.out _).mono ?_); rintro e w_ ⟨rfl, rfl⟩)
      | (go_at_call 43; (with_reducible refine (C2.out _).mono ?_); rintro e w_ ⟨rfl, rfl⟩))
    go_ret
    exact ⟨rfl, rfl⟩
theorem rtimes_any (idle now : Int) (w : World) : Calls Try.prog 37 #[.int .i64 idle, .int .i64 now] w fun e w' => e = .returned (.bool (timesB idle now)) ∧ w = w' := by
  go_enter Try.func37, Try.ntmps37
  go_wp2
  all_goals
    go_ret
    refine ⟨ret_bool (b := timesB idle now) ?_, rfl⟩
    rw [Bool.eq_iff_iff]
    unfold timesB inB
    simp
    try omega
end Go.Proofs.Ytmhphkclgdaajaa.P
