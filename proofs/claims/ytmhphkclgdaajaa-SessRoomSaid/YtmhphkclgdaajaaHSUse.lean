/- sess.Use. -/
import Derived.Test.YtmhphkclgdaajaaHSProve
namespace Go.Proofs.Ytmhphkclgdaajaa.P
open Go.RowKit Go.Lib Go.Proofs.YtmhphkclgdaajaaW.PrintWords Go.Proofs.YtmhphkclgdaajaaW.PrintLast Go.Proofs.YtmhphkclgdaajaaW.PrintMore
set_option linter.unusedVariables false
set_option linter.unusedSimpArgs false
set_option maxHeartbeats 2000000 in
set_option maxRecDepth 100000 in
theorem use_any (d count idle now : Int) (l : List Ses) (A : Option Addr) (c : Nat) (w : World) (hr : kS.C w A l.length l) (hc : l.length ≤ c) (hl : l.length < 1000000) (r1 : List Ses) (r2 : Int) (h : useS l d count idle now = (r1, r2)) :
    Calls Try.prog 11 #[.slice A l.length c, .int .u64 d, .int .u64 count, .int .i64 idle, .int .i64 now] w fun e w' => ∃ v : Value, e = .returned (.tuple #[v, .int .i64 r2]) ∧ ToldS w' v r1 ∧ Below w.heap.size w w' := by
  have HR := Aside0.mk hr
  have HC := Aside0.mk hc
  have HL := Aside0.mk hl
  obtain ⟨⟨o1, o2, o3⟩, ho⟩ : ∃ o, oldS (fun x => x.isOpen) l d idle now = o := ⟨_, rfl⟩
  have HD := Aside0.mk ho
  unfold useS at h
  rw [ho] at h
  simp only [] at h
  clear hr hc
  by_cases h3 : o3 = 0
  · rw [if_pos h3] at h
    obtain ⟨i, x, rfl, rfl, hf, hx, hz1, hz2, hz3, hz4⟩ := oldS_ok ho h3
    clear hz1 hz2 hz3 hz4
    subst h3
    have hi : i < o2.length := (List.getElem?_eq_some_iff.1 hx).1
    rw [Int.toNat_natCast, hx] at h
    simp only [] at h
    have HX := Aside0.mk hx
    have HI := Aside0.mk hi
    have HXS := Aside0.mk (show (o2.set i { x with count := count })[i]? = some { x with count := count } by rw [List.getElem?_set_self hi])
    have HSS := Aside0.mk (show (o2.set i { x with count := count }).set i { { x with count := count } with last := now } = o2.set i { { x with count := count } with last := now } from List.set_set ..)
    have hi2 : (i : Int) ≤ 1000000 := by omega
    have hi3 : (i : Int) < (o2.length : Int) := by omega
    by_cases hcnt : count ≤ x.count
    · rw [if_pos hcnt] at h
      cases h
      have hd1 : decide (count ≤ x.count) = true := decide_eq_true hcnt
      clear hcnt hf hx ho hl
      go_enter Try.func11, Try.ntmps11
      go_wp2_with (go_at_call 27; (with_reducible refine (old_use d idle now _ A c _ HR.out HC.out HL.out (i : Int) _ 0 HD.out).mono ?_); rintro e w1 ⟨v, rfl, ho, hb⟩; obtain ⟨g, cap, rfl, _, _, _⟩ := Kd.R_form ho (Nat.lt_of_le_of_lt (Nat.zero_le _) HI.out); obtain ⟨q0, q1, q2, q3, q4⟩ := own_at ho HI.out HX.out; have HO := Aside0.mk ho; have HB := Aside0.mk hb; clear ho hb)
      go_ret2
      exact ⟨_, rfl, told_R HO.out, HB.out⟩
    · rw [if_neg hcnt] at h
      have hd1 : decide (count ≤ x.count) = false := decide_eq_false hcnt
      have hd1' : x.count < count := by omega
      by_cases hmx : count = 18446744073709551615
      · rw [if_pos hmx] at h
        cases h
        have hd2 : (count == 18446744073709551615) = true := by simpa using hmx
        clear hcnt hf hx ho hl hmx hd1
        go_enter Try.func11, Try.ntmps11
        go_wp2_with (first
          | (go_at_call 27; (with_reducible refine (old_use d idle now _ A c _ HR.out HC.out HL.out (i : Int) _ 0 HD.out).mono ?_); rintro e w1 ⟨v, rfl, ho, hb⟩; obtain ⟨g, cap, rfl, _, _, _⟩ := Kd.R_form ho (Nat.lt_of_le_of_lt (Nat.zero_le _) HI.out); obtain ⟨q0, q1, q2, q3, q4⟩ := own_at ho HI.out HX.out; have HO := Aside0.mk ho; have HB := Aside0.mk hb; clear ho hb)
          | (go_at_call 29; (with_reducible refine (delete_any i _ g cap w.heap.size _ HO.out HI.out HB.out.size).mono ?_); rintro e w2 ⟨rfl, ho, hb⟩; have HO2 := Aside0.mk ho; have HB2 := Aside0.mk (HB.out.trans hb); clear ho hb q0 q1 q2 q3 q4))
        go_ret2
        exact ⟨_, rfl, told_R HO2.out, HB2.out⟩
      · rw [if_neg hmx] at h
        cases h
        have hd2 : (count == 18446744073709551615) = false := by simpa using hmx
        clear hcnt hf hx ho hl hmx hd1
        go_enter Try.func11, Try.ntmps11
        go_wp2_with (first
          | (go_at_call 27; (with_reducible refine (old_use d idle now _ A c _ HR.out HC.out HL.out (i : Int) _ 0 HD.out).mono ?_); rintro e w1 ⟨v, rfl, ho, hb⟩; obtain ⟨g, cap, rfl, _, _, _⟩ := Kd.R_form ho (Nat.lt_of_le_of_lt (Nat.zero_le _) HI.out); obtain ⟨q0, q1, q2, q3, q4⟩ := own_at ho HI.out HX.out; have HO := Aside0.mk ho; have HB := Aside0.mk hb; clear ho hb)
          | ((with_reducible refine gate_store2 23 (.tmp 53) (.tmp 50) rfl ?_); refine store_F (w0 := w) 23 (.tmp 53) (.tmp 50) rfl rfl rfl (by kernel_rfl) i 37 _ x { x with count := count } (.int .u64 count) rfl (by simp) rfl rfl rfl HO.out HI.out HX.out (by decide) (scl_count x count) HB.out ?_; clear q0 q1 q2 q3 q4; intro w2 ho hb; have HO2 := Aside0.mk ho; have HB2 := Aside0.mk hb; clear ho hb)
          | ((with_reducible refine gate_store2 3 (.tmp 55) (.tmp 51) rfl ?_); refine store_F (w0 := w) 3 (.tmp 55) (.tmp 51) rfl rfl rfl (by kernel_rfl) i 38 _ { x with count := count } { { x with count := count } with last := now } (.int .i64 now) rfl (by simp) rfl rfl rfl HO2.out HI.out HXS.out (by decide) (scl_last _ now) HB2.out ?_; intro w3 ho hb; have HO3 := Aside0.mk ho; have HB3 := Aside0.mk hb; clear ho hb))
        go_ret2
        refine ⟨_, rfl, ?_, HB3.out⟩
        have h := HO3.out
        rw [HSS.out] at h
        exact told_R h
  · rw [if_neg h3] at h
    cases h
    have h3b : (r2 == 0) = false := by simpa using h3
    have h3c : (r2 != 0) = true := by simpa using h3
    clear h3 hl ho
    go_enter Try.func11, Try.ntmps11
    go_wp2_with (go_at_call 27; (with_reducible refine (old_use d idle now l A c _ HR.out HC.out HL.out o1 r1 r2 HD.out).mono ?_); rintro e w1 ⟨v, rfl, ho, hb⟩; have HO := Aside0.mk ho; have HB := Aside0.mk hb; clear ho hb)
    go_ret2
    exact ⟨_, rfl, told_R HO.out, HB.out⟩
end Go.Proofs.Ytmhphkclgdaajaa.P
