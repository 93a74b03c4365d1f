/- The law SessLast. Printed by genlaw.py. -/
import Derived.Test.YtmhphkclgdaajaaHSLawP
namespace Go.Proofs.Ytmhphkclgdaajaa.P
open Go.RowKit Go.Lib Go.Proofs.YtmhphkclgdaajaaW.PrintWords Go.Proofs.YtmhphkclgdaajaaW.PrintLast Go.Proofs.YtmhphkclgdaajaaW.PrintMore
set_option linter.unusedVariables false
set_option linter.unusedSimpArgs false
set_option maxHeartbeats 4000000 in
set_option maxRecDepth 100000 in
theorem last_o1 (l : List Ses) (A : Option Addr) (c : Nat) (draw count idle now : Int) (w : World) (hr : kS.C w A l.length l) (hc : l.length ≤ c) (hfew : decide (l.length ≤ 8) = false) :
    Calls Try.prog 4 #[.slice A l.length c, .int .u64 draw, .int .u64 count, .int .i64 idle, .int .i64 now] w fun e w' => e = .returned (.bool true) ∧ Below w.heap.size w w' := by
  have HR := Aside0.mk hr
  have HC := Aside0.mk hc
  clear hr hc
  have HFEW := Aside0.mk hfew
  clear hfew
  go_enter Try.func4, Try.ntmps4
  go_wp2_with (first
    | (go_at_call 9; (with_reducible refine (awake_any _).mono ?_); rintro e w1 ⟨rfl, hb⟩; have HB := Aside0.mk hb; clear hb)
    | (go_at_call 10; (with_reducible refine (few_any l A c _).mono ?_); rintro e w1 ⟨he_, rfl⟩; rw [HFEW.out] at he_; subst he_))
  go_ret
  exact ⟨rfl, HB.out⟩
set_option maxHeartbeats 4000000 in
set_option maxRecDepth 100000 in
theorem last_w1 (l : List Ses) (A : Option Addr) (c : Nat) (draw count idle now : Int) (w : World) (hr : kS.C w A l.length l) (hc : l.length ≤ c) (hfew : decide (l.length ≤ 8) = true) (hl : l.length < 1000000) (r1 : List Ses) (e1 : Int) (h3 : useS l draw 18446744073709551615 idle now = (r1, e1)) (he : e1 ≠ 0) (he2 : e1 ≠ 8) :
    Calls Try.prog 4 #[.slice A l.length c, .int .u64 draw, .int .u64 count, .int .i64 idle, .int .i64 now] w fun e w' => e = .returned (.bool true) ∧ Below w.heap.size w w' := by
  have HR := Aside0.mk hr
  have HC := Aside0.mk hc
  clear hr hc
  have HFEW := Aside0.mk hfew
  clear hfew
  have HL := Aside0.mk hl
  have H3 := Aside0.mk h3
  clear hl h3
  have he1 : (e1 == 0) = false := by simpa using he
  have he3 : (e1 != 0) = true := by simpa using he
  have he4 : (e1 == 8) = false := by simpa using he2
  have he5 : (e1 != 8) = true := by simpa using he2
  clear he he2
  go_enter Try.func4, Try.ntmps4
  go_wp2_with (first
    | (go_at_call 9; (with_reducible refine (awake_any _).mono ?_); rintro e w1 ⟨rfl, hb⟩; have HB := Aside0.mk hb; clear hb)
    | (go_at_call 10; (with_reducible refine (few_any l A c _).mono ?_); rintro e w1 ⟨he_, rfl⟩; rw [HFEW.out] at he_; subst he_)
    | (go_at_call 11; (with_reducible refine (use_any draw 18446744073709551615 idle now l A c _ (Kd.C_below HR.out HB.out) HC.out HL.out r1 e1 H3.out).mono ?_); rintro e w1 ⟨v, rfl, ho, hb⟩; obtain ⟨A1, c1, rfl, hc1, hC1⟩ := ho; have HC1 := Aside0.mk hc1; have H1 := Aside0.mk hC1; have HB := Aside0.mk (below_step HB.out hb); clear hb hc1 hC1))
  go_ret
  exact ⟨rfl, HB.out⟩
set_option maxHeartbeats 4000000 in
set_option maxRecDepth 100000 in
theorem last_w2 (l : List Ses) (A : Option Addr) (c : Nat) (draw count idle now : Int) (w : World) (hr : kS.C w A l.length l) (hc : l.length ≤ c) (hfew : decide (l.length ≤ 8) = true) (hl : l.length < 1000000) (r1 : List Ses) (h3 : useS l draw 18446744073709551615 idle now = (r1, 8)) (fd : Int) (hf : findS l draw = fd) (h0 : 0 ≤ fd) :
    Calls Try.prog 4 #[.slice A l.length c, .int .u64 draw, .int .u64 count, .int .i64 idle, .int .i64 now] w fun e w' => e = .returned (.bool true) ∧ Below w.heap.size w w' := by
  have HR := Aside0.mk hr
  have HC := Aside0.mk hc
  clear hr hc
  have HFEW := Aside0.mk hfew
  clear hfew
  have HL := Aside0.mk hl
  have H3 := Aside0.mk h3
  clear hl h3
  have HF := Aside0.mk hf
  have hd : decide (0 ≤ fd) = true := decide_eq_true h0
  clear hf
  go_enter Try.func4, Try.ntmps4
  go_wp2_with (first
    | (go_at_call 9; (with_reducible refine (awake_any _).mono ?_); rintro e w1 ⟨rfl, hb⟩; have HB := Aside0.mk hb; clear hb)
    | (go_at_call 10; (with_reducible refine (few_any l A c _).mono ?_); rintro e w1 ⟨he_, rfl⟩; rw [HFEW.out] at he_; subst he_)
    | (go_at_call 11; (with_reducible refine (use_any draw 18446744073709551615 idle now l A c _ (Kd.C_below HR.out HB.out) HC.out HL.out r1 8 H3.out).mono ?_); rintro e w1 ⟨v, rfl, ho, hb⟩; obtain ⟨A1, c1, rfl, hc1, hC1⟩ := ho; have HC1 := Aside0.mk hc1; have H1 := Aside0.mk hC1; have HB := Aside0.mk (below_step HB.out hb); clear hb hc1 hC1)
    | (go_at_call 12; (with_reducible refine (find_any draw l A c _ (Kd.C_below HR.out HB.out)).mono ?_); rintro e w1 ⟨he_, hb⟩; rw [HF.out] at he_; subst he_; have HB := Aside0.mk (below_step HB.out hb); clear hb))
  go_ret
  exact ⟨rfl, HB.out⟩
set_option maxHeartbeats 4000000 in
set_option maxRecDepth 100000 in
theorem last_w3 (l : List Ses) (A : Option Addr) (c : Nat) (draw count idle now : Int) (w : World) (hr : kS.C w A l.length l) (hc : l.length ≤ c) (hfew : decide (l.length ≤ 8) = true) (hl : l.length < 1000000) (r1 : List Ses) (h3 : useS l draw 18446744073709551615 idle now = (r1, 0)) (r2 : List Ses) (h4 : useS r1 draw count idle now = (r2, 5)) (hf : findS r1 draw = -1) (h5 : r1.length + 1 = l.length) :
    Calls Try.prog 4 #[.slice A l.length c, .int .u64 draw, .int .u64 count, .int .i64 idle, .int .i64 now] w fun e w' => e = .returned (.bool true) ∧ Below w.heap.size w w' := by
  have HR := Aside0.mk hr
  have HC := Aside0.mk hc
  clear hr hc
  have HFEW := Aside0.mk hfew
  clear hfew
  have HL := Aside0.mk hl
  have H3 := Aside0.mk h3
  clear hl h3
  have H4 := Aside0.mk h4
  have HF := Aside0.mk hf
  have HL1 := Aside0.mk (show r1.length < 1000000 by have := HL.out; omega)
  have hd : ((r1.length : Int) == (l.length : Int) - 1) = true := by simp; omega
  have hd2 : (l.length : Int) ≤ 1000000 := by have := HL.out; omega
  clear hf h4 h5
  go_enter Try.func4, Try.ntmps4
  go_wp2_with (first
    | (go_at_call 9; (with_reducible refine (awake_any _).mono ?_); rintro e w1 ⟨rfl, hb⟩; have HB := Aside0.mk hb; clear hb)
    | (go_at_call 10; (with_reducible refine (few_any l A c _).mono ?_); rintro e w1 ⟨he_, rfl⟩; rw [HFEW.out] at he_; subst he_)
    | (go_at_call 11; (with_reducible refine (use_any draw 18446744073709551615 idle now l A c _ (Kd.C_below HR.out HB.out) HC.out HL.out r1 0 H3.out).mono ?_); rintro e w1 ⟨v, rfl, ho, hb⟩; obtain ⟨A1, c1, rfl, hc1, hC1⟩ := ho; have HC1 := Aside0.mk hc1; have H1 := Aside0.mk hC1; have HB := Aside0.mk (below_step HB.out hb); clear hb hc1 hC1)
    | (go_at_call 11; (with_reducible refine (use_any draw count idle now r1 A1 c1 _ H1.out HC1.out HL1.out r2 5 H4.out).mono ?_); rintro e w1 ⟨v, rfl, ho, hb⟩; have H1 := Aside0.mk (Kd.C_below H1.out hb); obtain ⟨A2, c2, rfl, hc2, hC2⟩ := ho; have HC2 := Aside0.mk hc2; have H2 := Aside0.mk hC2; have HB := Aside0.mk (below_step HB.out hb); clear hb hc2 hC2)
    | (go_at_call 12; (with_reducible refine (find_any draw r1 A1 c1 _ H1.out).mono ?_); rintro e w1 ⟨he_, hb⟩; rw [HF.out] at he_; subst he_; have HB := Aside0.mk (below_step HB.out hb); clear hb))
  go_ret
  exact ⟨rfl, HB.out⟩
theorem sessLast_any (l : List Ses) (A : Option Addr) (c : Nat) (draw count idle now : Int) (w : World) (hr : kS.C w A l.length l) (hc : l.length ≤ c) (gl : l.length ≤ maxLen ∧ ∀ x ∈ l, GS x) (g1 : (Lit.int .u64 draw).wf = true) (g2 : (Lit.int .u64 count).wf = true) (g4 : (Lit.int .i64 idle).wf = true) (g5 : (Lit.int .i64 now).wf = true) :
    Calls Try.prog 4 #[.slice A l.length c, .int .u64 draw, .int .u64 count, .int .i64 idle, .int .i64 now] w fun e w' => e = .returned (.bool true) ∧ Below w.heap.size w w' := by
  by_cases hfew : l.length ≤ 8
  · have hf := decide_eq_true hfew
    have hl : l.length < 1000000 := by omega
    obtain ⟨r1, e1, h3, c1⟩ := useS_spec l draw 18446744073709551615 idle now
    rcases c1 with ⟨rfl, _⟩ | ⟨hm, ht, ⟨rfl, _⟩ | ⟨i, x, hfi, hx, hop, ⟨rfl, _⟩ | ⟨hla, ⟨rfl, rfl, _⟩ | ⟨hca, hamx, rfl, rfl⟩ | ⟨hca, hamx, rfl, rfl⟩⟩⟩⟩
    · exact last_w1 l A c draw count idle now w hr hc hf hl _ _ h3 (by decide) (by decide)
    · exact last_w1 l A c draw count idle now w hr hc hf hl _ _ h3 (by decide) (by decide)
    · exact last_w1 l A c draw count idle now w hr hc hf hl _ _ h3 (by decide) (by decide)
    · exact last_w2 _ A c draw count idle now w hr hc hf hl _ h3 i hfi (by omega)
    · have hmp := (mayS_iff l).1 hm
      have hf2 := find_erase hmp hfi
      have hlt : i < l.length := (List.getElem?_eq_some_iff.1 hx).1
      have hu := useS_no (count := count) (oldS_5 (p := fun x => x.isOpen) ((mayS_iff _).2 (mayP_erase hmp i)) ht hf2) (by decide)
      exact last_w3 l A c draw count idle now w hr hc hf hl _ h3 _ hu hf2 (by rw [List.length_eraseIdx_of_lt hlt]; omega)
    · exact absurd rfl hamx
  · exact last_o1 l A c draw count idle now w hr hc (decide_eq_false hfew)
end Go.Proofs.Ytmhphkclgdaajaa.P
