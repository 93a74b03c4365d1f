/- The law SessOnce. Printed by genlaw.py. -/
import Derived.Test.YtmhphkclgdaajaaHSLawP
namespace Go.Proofs.Ytmhphkclgdaajaa.P
open Go.RowKit Go.Lib Go.Proofs.YtmhphkclgdaajaaW.PrintWords Go.Proofs.YtmhphkclgdaajaaW.PrintLast Go.Proofs.YtmhphkclgdaajaaW.PrintMore
set_option linter.unusedVariables false
set_option linter.unusedSimpArgs false
set_option maxHeartbeats 4000000 in
set_option maxRecDepth 100000 in
theorem once_o1 (l : List Ses) (A : Option Addr) (c : Nat) (draw a b idle now later : Int) (w : World) (hr : kS.C w A l.length l) (hc : l.length ≤ c) (hfew : decide (l.length ≤ 8) = false) :
    Calls Try.prog 3 #[.slice A l.length c, .int .u64 draw, .int .u64 a, .int .u64 b, .int .i64 idle, .int .i64 now, .int .i64 later] w fun e w' => e = .returned (.bool true) ∧ Below w.heap.size w w' := by
  have HR := Aside0.mk hr
  have HC := Aside0.mk hc
  clear hr hc
  have HFEW := Aside0.mk hfew
  clear hfew
  go_enter Try.func3, Try.ntmps3
  go_wp2_with (first
    | (go_at_call 9; (with_reducible refine (awake_any _).mono ?_); rintro e w1 ⟨rfl, hb⟩; have HB := Aside0.mk hb; clear hb)
    | (go_at_call 10; (with_reducible refine (few_any l A c _).mono ?_); rintro e w1 ⟨he_, rfl⟩; rw [HFEW.out] at he_; subst he_))
  go_ret
  exact ⟨rfl, HB.out⟩
set_option maxHeartbeats 4000000 in
set_option maxRecDepth 100000 in
theorem once_o2 (l : List Ses) (A : Option Addr) (c : Nat) (draw a b idle now later : Int) (w : World) (hr : kS.C w A l.length l) (hc : l.length ≤ c) (hfew : decide (l.length ≤ 8) = true) (h : later < now) :
    Calls Try.prog 3 #[.slice A l.length c, .int .u64 draw, .int .u64 a, .int .u64 b, .int .i64 idle, .int .i64 now, .int .i64 later] w fun e w' => e = .returned (.bool true) ∧ Below w.heap.size w w' := by
  have HR := Aside0.mk hr
  have HC := Aside0.mk hc
  clear hr hc
  have HFEW := Aside0.mk hfew
  clear hfew
  go_enter Try.func3, Try.ntmps3
  go_wp2_with (first
    | (go_at_call 9; (with_reducible refine (awake_any _).mono ?_); rintro e w1 ⟨rfl, hb⟩; have HB := Aside0.mk hb; clear hb)
    | (go_at_call 10; (with_reducible refine (few_any l A c _).mono ?_); rintro e w1 ⟨he_, rfl⟩; rw [HFEW.out] at he_; subst he_))
  go_ret
  exact ⟨rfl, HB.out⟩
set_option maxHeartbeats 4000000 in
set_option maxRecDepth 100000 in
theorem once_o3 (l : List Ses) (A : Option Addr) (c : Nat) (draw a b idle now later : Int) (w : World) (hr : kS.C w A l.length l) (hc : l.length ≤ c) (hfew : decide (l.length ≤ 8) = true) (h : now ≤ later) (h2 : 1073741824 < later) :
    Calls Try.prog 3 #[.slice A l.length c, .int .u64 draw, .int .u64 a, .int .u64 b, .int .i64 idle, .int .i64 now, .int .i64 later] w fun e w' => e = .returned (.bool true) ∧ Below w.heap.size w w' := by
  have HR := Aside0.mk hr
  have HC := Aside0.mk hc
  clear hr hc
  have HFEW := Aside0.mk hfew
  clear hfew
  go_enter Try.func3, Try.ntmps3
  go_wp2_with (first
    | (go_at_call 9; (with_reducible refine (awake_any _).mono ?_); rintro e w1 ⟨rfl, hb⟩; have HB := Aside0.mk hb; clear hb)
    | (go_at_call 10; (with_reducible refine (few_any l A c _).mono ?_); rintro e w1 ⟨he_, rfl⟩; rw [HFEW.out] at he_; subst he_))
  go_ret
  exact ⟨rfl, HB.out⟩
set_option maxHeartbeats 4000000 in
set_option maxRecDepth 100000 in
theorem once_w1 (l : List Ses) (A : Option Addr) (c : Nat) (draw a b idle now later : Int) (w : World) (hr : kS.C w A l.length l) (hc : l.length ≤ c) (hfew : decide (l.length ≤ 8) = true) (h : now ≤ later) (h2 : later ≤ 1073741824) (hl : l.length < 1000000) (r1 r2 : List Ses) (e1 e2 : Int) (h3 : useS l draw a idle now = (r1, e1)) (h4 : useS r1 draw b idle later = (r2, e2)) (hl1 : r1.length < 1000000) (he : e1 ≠ 0) :
    Calls Try.prog 3 #[.slice A l.length c, .int .u64 draw, .int .u64 a, .int .u64 b, .int .i64 idle, .int .i64 now, .int .i64 later] w fun e w' => e = .returned (.bool true) ∧ Below w.heap.size w w' := by
  have HR := Aside0.mk hr
  have HC := Aside0.mk hc
  clear hr hc
  have HFEW := Aside0.mk hfew
  clear hfew
  have HL := Aside0.mk hl
  have HL1 := Aside0.mk hl1
  have H3 := Aside0.mk h3
  have H4 := Aside0.mk h4
  clear hl hl1 h3 h4
  have he1 : (e1 == 0) = false := by simpa using he
  have he2 : (e1 != 0) = true := by simpa using he
  clear he
  go_enter Try.func3, Try.ntmps3
  go_wp2_with (first
    | (go_at_call 9; (with_reducible refine (awake_any _).mono ?_); rintro e w1 ⟨rfl, hb⟩; have HB := Aside0.mk hb; clear hb)
    | (go_at_call 10; (with_reducible refine (few_any l A c _).mono ?_); rintro e w1 ⟨he_, rfl⟩; rw [HFEW.out] at he_; subst he_)
    | (go_at_call 11; (with_reducible refine (use_any draw a idle now l A c _ (Kd.C_below HR.out HB.out) HC.out HL.out r1 e1 H3.out).mono ?_); rintro e w1 ⟨v, rfl, ho, hb⟩; obtain ⟨A1, c1, rfl, hc1, hC1⟩ := ho; have HC1 := Aside0.mk hc1; have H1 := Aside0.mk hC1; have HB := Aside0.mk (below_step HB.out hb); clear hb hc1 hC1)
    | (go_at_call 11; (with_reducible refine (use_any draw b idle later r1 A1 c1 _ H1.out HC1.out HL1.out r2 e2 H4.out).mono ?_); rintro e w1 ⟨v, rfl, ho, hb⟩; obtain ⟨A2, c2, rfl, hc2, hC2⟩ := ho; have HC2 := Aside0.mk hc2; have H2 := Aside0.mk hC2; have HB := Aside0.mk (below_step HB.out hb); clear hb hc2 hC2))
  go_ret
  exact ⟨rfl, HB.out⟩
set_option maxHeartbeats 4000000 in
set_option maxRecDepth 100000 in
theorem once_w2 (l : List Ses) (A : Option Addr) (c : Nat) (draw a b idle now later : Int) (w : World) (hr : kS.C w A l.length l) (hc : l.length ≤ c) (hfew : decide (l.length ≤ 8) = true) (h : now ≤ later) (h2 : later ≤ 1073741824) (hl : l.length < 1000000) (r1 r2 : List Ses)  (h3 : useS l draw a idle now = (r1, 0)) (h4 : useS r1 draw b idle later = (r2, 0)) (hl1 : r1.length < 1000000) (hab : a < b) (ha : a ≠ 18446744073709551615) (fd : Int) (hf : findS r2 draw = fd) (q : Bool) (hq1 : (fd == -1) = q) (hq2 : (b == 18446744073709551615) = q) :
    Calls Try.prog 3 #[.slice A l.length c, .int .u64 draw, .int .u64 a, .int .u64 b, .int .i64 idle, .int .i64 now, .int .i64 later] w fun e w' => e = .returned (.bool true) ∧ Below w.heap.size w w' := by
  have HR := Aside0.mk hr
  have HC := Aside0.mk hc
  clear hr hc
  have HFEW := Aside0.mk hfew
  clear hfew
  have HL := Aside0.mk hl
  have HL1 := Aside0.mk hl1
  have H3 := Aside0.mk h3
  have H4 := Aside0.mk h4
  clear hl hl1 h3 h4
  have HF := Aside0.mk hf
  have hd1 : decide (a < b) = true := decide_eq_true hab
  have ha1 : (a == 18446744073709551615) = false := by simpa using ha
  have ha2 : (a != 18446744073709551615) = true := by simpa using ha
  clear ha hf hab
  go_enter Try.func3, Try.ntmps3
  go_wp2_with (first
    | (go_at_call 9; (with_reducible refine (awake_any _).mono ?_); rintro e w1 ⟨rfl, hb⟩; have HB := Aside0.mk hb; clear hb)
    | (go_at_call 10; (with_reducible refine (few_any l A c _).mono ?_); rintro e w1 ⟨he_, rfl⟩; rw [HFEW.out] at he_; subst he_)
    | (go_at_call 11; (with_reducible refine (use_any draw a idle now l A c _ (Kd.C_below HR.out HB.out) HC.out HL.out r1 0 H3.out).mono ?_); rintro e w1 ⟨v, rfl, ho, hb⟩; obtain ⟨A1, c1, rfl, hc1, hC1⟩ := ho; have HC1 := Aside0.mk hc1; have H1 := Aside0.mk hC1; have HB := Aside0.mk (below_step HB.out hb); clear hb hc1 hC1)
    | (go_at_call 11; (with_reducible refine (use_any draw b idle later r1 A1 c1 _ H1.out HC1.out HL1.out r2 0 H4.out).mono ?_); rintro e w1 ⟨v, rfl, ho, hb⟩; obtain ⟨A2, c2, rfl, hc2, hC2⟩ := ho; have HC2 := Aside0.mk hc2; have H2 := Aside0.mk hC2; have HB := Aside0.mk (below_step HB.out hb); clear hb hc2 hC2)
    | (go_at_call 12; (with_reducible refine (find_any draw r2 A2 c2 _ H2.out).mono ?_); rintro e w1 ⟨he_, hb⟩; rw [HF.out] at he_; subst he_; have HB := Aside0.mk (below_step HB.out hb); clear hb))
  go_ret
  exact ⟨rfl, HB.out⟩
set_option maxHeartbeats 4000000 in
set_option maxRecDepth 100000 in
theorem once_w3 (l : List Ses) (A : Option Addr) (c : Nat) (draw a b idle now later : Int) (w : World) (hr : kS.C w A l.length l) (hc : l.length ≤ c) (hfew : decide (l.length ≤ 8) = true) (h : now ≤ later) (h2 : later ≤ 1073741824) (hl : l.length < 1000000) (r1 r2 : List Ses)  (h3 : useS l draw a idle now = (r1, 0)) (h4 : useS r1 draw b idle later = (r2, 5)) (hl1 : r1.length < 1000000) (ha : a = 18446744073709551615) :
    Calls Try.prog 3 #[.slice A l.length c, .int .u64 draw, .int .u64 a, .int .u64 b, .int .i64 idle, .int .i64 now, .int .i64 later] w fun e w' => e = .returned (.bool true) ∧ Below w.heap.size w w' := by
  have HR := Aside0.mk hr
  have HC := Aside0.mk hc
  clear hr hc
  have HFEW := Aside0.mk hfew
  clear hfew
  have HL := Aside0.mk hl
  have HL1 := Aside0.mk hl1
  have H3 := Aside0.mk h3
  have H4 := Aside0.mk h4
  clear hl hl1 h3 h4
  have ha1 : (a == 18446744073709551615) = true := by simpa using ha
  clear ha
  go_enter Try.func3, Try.ntmps3
  go_wp2_with (first
    | (go_at_call 9; (with_reducible refine (awake_any _).mono ?_); rintro e w1 ⟨rfl, hb⟩; have HB := Aside0.mk hb; clear hb)
    | (go_at_call 10; (with_reducible refine (few_any l A c _).mono ?_); rintro e w1 ⟨he_, rfl⟩; rw [HFEW.out] at he_; subst he_)
    | (go_at_call 11; (with_reducible refine (use_any draw a idle now l A c _ (Kd.C_below HR.out HB.out) HC.out HL.out r1 0 H3.out).mono ?_); rintro e w1 ⟨v, rfl, ho, hb⟩; obtain ⟨A1, c1, rfl, hc1, hC1⟩ := ho; have HC1 := Aside0.mk hc1; have H1 := Aside0.mk hC1; have HB := Aside0.mk (below_step HB.out hb); clear hb hc1 hC1)
    | (go_at_call 11; (with_reducible refine (use_any draw b idle later r1 A1 c1 _ H1.out HC1.out HL1.out r2 5 H4.out).mono ?_); rintro e w1 ⟨v, rfl, ho, hb⟩; obtain ⟨A2, c2, rfl, hc2, hC2⟩ := ho; have HC2 := Aside0.mk hc2; have H2 := Aside0.mk hC2; have HB := Aside0.mk (below_step HB.out hb); clear hb hc2 hC2))
  go_ret
  exact ⟨rfl, HB.out⟩
set_option maxHeartbeats 4000000 in
set_option maxRecDepth 100000 in
theorem once_w4 (l : List Ses) (A : Option Addr) (c : Nat) (draw a b idle now later : Int) (w : World) (hr : kS.C w A l.length l) (hc : l.length ≤ c) (hfew : decide (l.length ≤ 8) = true) (h : now ≤ later) (h2 : later ≤ 1073741824) (hl : l.length < 1000000) (r1 r2 : List Ses)  (h3 : useS l draw a idle now = (r1, 0)) (h4 : useS r1 draw b idle later = (r2, 8)) (hl1 : r1.length < 1000000) (hba : b ≤ a) :
    Calls Try.prog 3 #[.slice A l.length c, .int .u64 draw, .int .u64 a, .int .u64 b, .int .i64 idle, .int .i64 now, .int .i64 later] w fun e w' => e = .returned (.bool true) ∧ Below w.heap.size w w' := by
  have HR := Aside0.mk hr
  have HC := Aside0.mk hc
  clear hr hc
  have HFEW := Aside0.mk hfew
  clear hfew
  have HL := Aside0.mk hl
  have HL1 := Aside0.mk hl1
  have H3 := Aside0.mk h3
  have H4 := Aside0.mk h4
  clear hl hl1 h3 h4
  have hd1 : decide (b ≤ a) = true := decide_eq_true hba
  go_enter Try.func3, Try.ntmps3
  go_wp2_with (first
    | (go_at_call 9; (with_reducible refine (awake_any _).mono ?_); rintro e w1 ⟨rfl, hb⟩; have HB := Aside0.mk hb; clear hb)
    | (go_at_call 10; (with_reducible refine (few_any l A c _).mono ?_); rintro e w1 ⟨he_, rfl⟩; rw [HFEW.out] at he_; subst he_)
    | (go_at_call 11; (with_reducible refine (use_any draw a idle now l A c _ (Kd.C_below HR.out HB.out) HC.out HL.out r1 0 H3.out).mono ?_); rintro e w1 ⟨v, rfl, ho, hb⟩; obtain ⟨A1, c1, rfl, hc1, hC1⟩ := ho; have HC1 := Aside0.mk hc1; have H1 := Aside0.mk hC1; have HB := Aside0.mk (below_step HB.out hb); clear hb hc1 hC1)
    | (go_at_call 11; (with_reducible refine (use_any draw b idle later r1 A1 c1 _ H1.out HC1.out HL1.out r2 8 H4.out).mono ?_); rintro e w1 ⟨v, rfl, ho, hb⟩; obtain ⟨A2, c2, rfl, hc2, hC2⟩ := ho; have HC2 := Aside0.mk hc2; have H2 := Aside0.mk hC2; have HB := Aside0.mk (below_step HB.out hb); clear hb hc2 hC2))
  go_ret
  exact ⟨rfl, HB.out⟩
set_option maxHeartbeats 4000000 in
set_option maxRecDepth 100000 in
theorem once_w5 (l : List Ses) (A : Option Addr) (c : Nat) (draw a b idle now later : Int) (w : World) (hr : kS.C w A l.length l) (hc : l.length ≤ c) (hfew : decide (l.length ≤ 8) = true) (h : now ≤ later) (h2 : later ≤ 1073741824) (hl : l.length < 1000000) (r1 r2 : List Ses)  (h3 : useS l draw a idle now = (r1, 0)) (h4 : useS r1 draw b idle later = (r2, 9)) (hl1 : r1.length < 1000000) (hi : idle ≤ later - now) (hn0 : 0 ≤ now) :
    Calls Try.prog 3 #[.slice A l.length c, .int .u64 draw, .int .u64 a, .int .u64 b, .int .i64 idle, .int .i64 now, .int .i64 later] w fun e w' => e = .returned (.bool true) ∧ Below w.heap.size w w' := by
  have HR := Aside0.mk hr
  have HC := Aside0.mk hc
  clear hr hc
  have HFEW := Aside0.mk hfew
  clear hfew
  have HL := Aside0.mk hl
  have HL1 := Aside0.mk hl1
  have H3 := Aside0.mk h3
  have H4 := Aside0.mk h4
  clear hl hl1 h3 h4
  have hd1 : decide (idle ≤ later - now) = true := decide_eq_true hi
  go_enter Try.func3, Try.ntmps3
  go_wp2_with (first
    | (go_at_call 9; (with_reducible refine (awake_any _).mono ?_); rintro e w1 ⟨rfl, hb⟩; have HB := Aside0.mk hb; clear hb)
    | (go_at_call 10; (with_reducible refine (few_any l A c _).mono ?_); rintro e w1 ⟨he_, rfl⟩; rw [HFEW.out] at he_; subst he_)
    | (go_at_call 11; (with_reducible refine (use_any draw a idle now l A c _ (Kd.C_below HR.out HB.out) HC.out HL.out r1 0 H3.out).mono ?_); rintro e w1 ⟨v, rfl, ho, hb⟩; obtain ⟨A1, c1, rfl, hc1, hC1⟩ := ho; have HC1 := Aside0.mk hc1; have H1 := Aside0.mk hC1; have HB := Aside0.mk (below_step HB.out hb); clear hb hc1 hC1)
    | (go_at_call 11; (with_reducible refine (use_any draw b idle later r1 A1 c1 _ H1.out HC1.out HL1.out r2 9 H4.out).mono ?_); rintro e w1 ⟨v, rfl, ho, hb⟩; obtain ⟨A2, c2, rfl, hc2, hC2⟩ := ho; have HC2 := Aside0.mk hc2; have H2 := Aside0.mk hC2; have HB := Aside0.mk (below_step HB.out hb); clear hb hc2 hC2))
  go_ret
  exact ⟨rfl, HB.out⟩
theorem late_iff {x : Ses} {idle now : Int} (ht : timesB idle now = true) : lateB x idle now = true ↔ 0 ≤ x.last ∧ x.last ≤ now - idle := by
  unfold lateB
  rw [ht]
  simp
theorem times_iff (idle now : Int) : timesB idle now = true ↔ 1 ≤ idle ∧ idle ≤ 1048576 ∧ 0 ≤ now ∧ now ≤ 1073741824 := by
  unfold timesB inB
  simp only [Bool.and_eq_true, decide_eq_true_eq]
  exact ⟨fun ⟨⟨a, b⟩, c, d⟩ => ⟨a, b, c, d⟩, fun ⟨a, b, c, d⟩ => ⟨⟨a, b⟩, c, d⟩⟩
theorem mayB_iff (x : Ses) : mayB x = true ↔ (1 ≤ x.user ∧ x.user ≤ 255) ∧ (0 ≤ x.epoch ∧ x.epoch ≤ 1073741824) ∧ (0 ≤ x.last ∧ x.last ≤ 1073741824) ∧ (x.isOpen = true ∨ x.count = 0) := by
  unfold mayB inB
  simp only [Bool.and_eq_true, decide_eq_true_eq, Bool.or_eq_true]
theorem mayB_last {x : Ses} {now : Int} (h : mayB x = true) (ho : x.isOpen = true) (n : Int) (h0 : 0 ≤ now) (h1 : now ≤ 1073741824) : mayB { { x with count := n } with last := now } = true := by
  rw [mayB_iff] at h ⊢
  exact ⟨h.1, h.2.1, ⟨h0, h1⟩, .inl ho⟩
theorem sessOnce_any (l : List Ses) (A : Option Addr) (c : Nat) (draw a b idle now later : Int) (w : World) (hr : kS.C w A l.length l) (hc : l.length ≤ c) (gl : l.length ≤ maxLen ∧ ∀ x ∈ l, GS x) (g1 : (Lit.int .u64 draw).wf = true) (g2 : (Lit.int .u64 a).wf = true) (g3 : (Lit.int .u64 b).wf = true) (g4 : (Lit.int .i64 idle).wf = true) (g5 : (Lit.int .i64 now).wf = true) (g6 : (Lit.int .i64 later).wf = true) :
    Calls Try.prog 3 #[.slice A l.length c, .int .u64 draw, .int .u64 a, .int .u64 b, .int .i64 idle, .int .i64 now, .int .i64 later] w fun e w' => e = .returned (.bool true) ∧ Below w.heap.size w w' := by
  by_cases hfew : l.length ≤ 8
  · by_cases h : now ≤ later
    · by_cases h2 : later ≤ 1073741824
      · have hf := decide_eq_true hfew
        have hl : l.length < 1000000 := by omega
        obtain ⟨r1, e1, h3, c1⟩ := useS_spec l draw a idle now
        obtain ⟨r2, e2, h4, c2⟩ := useS_spec r1 draw b idle later
        have hl1 : r1.length < 1000000 := by have := useS_len h3; omega
        by_cases he : e1 = 0
        · subst he
          rcases c1 with ⟨h', _⟩ | ⟨hm, ht, ⟨h', _⟩ | ⟨i, x, hfi, hx, hop, ⟨h', _⟩ | ⟨hla, ⟨h', _⟩ | ⟨hca, hamx, _, rfl⟩ | ⟨hca, hamx, _, rfl⟩⟩⟩⟩
          · omega
          · omega
          · omega
          · omega
          · -- the greatest counter
            have hmp := (mayS_iff l).1 hm
            have hf2 := find_erase hmp hfi
            obtain ⟨t1, t2, t3, t4⟩ := (times_iff _ _).1 ht
            have ht2 : timesB idle later = true := (times_iff _ _).2 ⟨t1, t2, by omega, h2⟩
            have hu := useS_no (count := b) (oldS_5 (p := fun x => x.isOpen) ((mayS_iff _).2 (mayP_erase hmp i)) ht2 hf2) (by decide)
            rw [hu] at h4
            cases h4
            exact once_w3 l A c draw a b idle now later w hr hc hf h h2 hl _ _ h3 hu hl1 hamx
          · have hmp := (mayS_iff l).1 hm
            obtain ⟨t1, t2, t3, t4⟩ := (times_iff _ _).1 ht
            have ht2 : timesB idle later = true := (times_iff _ _).2 ⟨t1, t2, by omega, h2⟩
            have hmx := hmp.1 x (List.mem_of_getElem? hx)
            have hlt : i < l.length := (List.getElem?_eq_some_iff.1 hx).1
            have hmb := mayB_last hmx hop a t3 t4
            generalize hx' : ({ { x with count := a } with last := now } : Ses) = x' at *
            have hd : x'.draw = x.draw := by rw [← hx']
            have hop' : x'.isOpen = true := by rw [← hx']; exact hop
            have hcn' : x'.count = a := by rw [← hx']
            have hla' : x'.last = now := by rw [← hx']
            have hmp2 : mayP (l.set i x') := mayP_set hmp hx hd hmb
            have hf2 : findS (l.set i x') draw = i := by rw [find_set hx hd]; exact hfi
            have hx2 : (l.set i x')[i]? = some x' := List.getElem?_set_self hlt
            cases hla2 : lateB x' idle later with
            | true =>
              have hu := useS_no (count := b) (oldS_9 (p := fun x => x.isOpen) ((mayS_iff _).2 hmp2) ht2 hf2 hx2 hop' hla2) (by decide)
              have hlt2 := ((late_iff ht2).1 hla2).2
              rw [hu] at h4
              cases h4
              exact once_w5 l A c draw a b idle now later w hr hc hf h h2 hl _ _ h3 hu hl1 (by omega) t3
            | false =>
              have hu := useS_ok (count := b) (oldS_0 (p := fun x => x.isOpen) ((mayS_iff _).2 hmp2) ht2 hf2 hx2 hop' hla2) hx2
              rw [hcn'] at hu
              by_cases hba : b ≤ a
              · rw [if_pos hba] at hu
                rw [hu] at h4
                cases h4
                exact once_w4 l A c draw a b idle now later w hr hc hf h h2 hl _ _ h3 hu hl1 hba
              · rw [if_neg hba] at hu
                by_cases hbm : b = 18446744073709551615
                · rw [if_pos hbm] at hu
                  rw [hu] at h4
                  cases h4
                  exact once_w2 l A c draw a b idle now later w hr hc hf h h2 hl _ _ h3 hu hl1 (by omega) hamx (-1) (find_erase hmp2 hf2) true rfl (by simpa using hbm)
                · rw [if_neg hbm] at hu
                  rw [hu] at h4
                  cases h4
                  exact once_w2 l A c draw a b idle now later w hr hc hf h h2 hl _ _ h3 hu hl1 (by omega) hamx i (by refine (find_set hx2 ?_ draw).trans hf2; rfl) false (by simp) (by simpa using hbm)
        · exact once_w1 l A c draw a b idle now later w hr hc hf h h2 hl _ _ _ _ h3 h4 hl1 he
      · exact once_o3 l A c draw a b idle now later w hr hc (decide_eq_true hfew) h (by omega)
    · exact once_o2 l A c draw a b idle now later w hr hc (decide_eq_true hfew) (by omega)
  · exact once_o1 l A c draw a b idle now later w hr hc (decide_eq_false hfew)
end Go.Proofs.Ytmhphkclgdaajaa.P
