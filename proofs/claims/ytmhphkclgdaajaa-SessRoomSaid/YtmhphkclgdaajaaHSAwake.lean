/- pelicanlaw18.awake. -/
import Derived.Test.YtmhphkclgdaajaaHSOpens
import Derived.Test.YtmhphkclgdaajaaHSSame
namespace Go.Proofs.Ytmhphkclgdaajaa.P
open Go.RowKit Go.Lib Go.Proofs.YtmhphkclgdaajaaW.PrintWords Go.Proofs.YtmhphkclgdaajaaW.PrintLast Go.Proofs.YtmhphkclgdaajaaW.PrintMore
set_option linter.unusedVariables false
set_option linter.unusedSimpArgs false
def xa0 : Ses := ⟨1, 0, 7, 0, zkey, false, 0, 0⟩
def xa1 : Ses := ⟨1, 0, 7, 0, zkey, false, 0, 5⟩
def xa2 : Ses := ⟨1, 0, 7, 0, zkey, true, 0, 5⟩
def xa3 : Ses := ⟨1, 0, 7, 0, zkey, true, 1, 14⟩
def xa4 : Ses := ⟨1, 0, 7, 0, zkey, true, 2, 23⟩
theorem aw1 : beginS [] xa0 10 5 = ([xa1], 0) := by decide +kernel
theorem aw2 : proveS [xa1] 7 10 5 = ([xa2], 0) := by decide +kernel
theorem aw3 : useS [xa2] 7 1 10 14 = ([xa3], 0) := by decide +kernel
theorem aw4 : useS [xa2] 7 1 10 15 = ([], 9) := by decide +kernel
theorem aw5 : useS [xa3] 7 2 10 23 = ([xa4], 0) := by decide +kernel
theorem aw6 : mayS [xa3] = true := by decide +kernel
theorem aw7 : findS [xa3] 7 = 0 := by decide +kernel
/-- The one session of a row. -/
theorem told_one {w : World} {v : Value} {x : Ses} (h : ToldS w v [x]) : ∃ ad c, v = .slice (some ad) 1 c ∧ 1 ≤ c ∧ kS.C w (some ad) 1 [x] ∧ w.cell? ⟨ad.block, ad.off + 37, none⟩ = some (.int .u64 x.count) ∧ w.cell? ⟨ad.block, ad.off + 38, none⟩ = some (.int .i64 x.last) := by
  obtain ⟨A, c, rfl, hc, hC⟩ := h
  obtain ⟨ad, rfl, _, _, _, _, _, _, h5, h6⟩ := at_S hC 0 (by simp) x rfl
  refine ⟨ad, c, rfl, hc, hC, ?_, ?_⟩
  · simpa [Addr.add] using h5
  · simpa [Addr.add] using h6
theorem prove_1 (d idle now : Int) (x : Ses) (ad : Addr) (c : Nat) (w : World) (hr : kS.C w (some ad) 1 [x]) (hc : 1 ≤ c) (r1 : List Ses) (r2 : Int) (h : proveS [x] d idle now = (r1, r2)) :
    Calls Try.prog 17 #[.slice (some ad) 1 c, .int .u64 d, .int .i64 idle, .int .i64 now] w fun e w' => ∃ v : Value, e = .returned (.tuple #[v, .int .i64 r2]) ∧ ToldS w' v r1 ∧ Below w.heap.size w w' :=
  prove_any d idle now [x] (some ad) c w hr hc (by simp) r1 r2 h
theorem use_1 (d count idle now : Int) (x : Ses) (ad : Addr) (c : Nat) (w : World) (hr : kS.C w (some ad) 1 [x]) (hc : 1 ≤ c) (r1 : List Ses) (r2 : Int) (h : useS [x] d count idle now = (r1, r2)) :
    Calls Try.prog 11 #[.slice (some ad) 1 c, .int .u64 d, .int .u64 count, .int .i64 idle, .int .i64 now] w fun e w' => ∃ v : Value, e = .returned (.tuple #[v, .int .i64 r2]) ∧ ToldS w' v r1 ∧ Below w.heap.size w w' :=
  use_any d count idle now [x] (some ad) c w hr hc (by simp) r1 r2 h
theorem may_1 (x : Ses) (ad : Addr) (c : Nat) (w : World) (hr : kS.C w (some ad) 1 [x]) (hc : 1 ≤ c) : Calls Try.prog 13 #[.slice (some ad) 1 c] w fun e w' => e = .returned (.bool (mayS [x])) ∧ Below w.heap.size w w' := mayL_any [x] (some ad) c w hr hc
theorem find_1 (d : Int) (x : Ses) (ad : Addr) (c : Nat) (w : World) (hr : kS.C w (some ad) 1 [x]) : Calls Try.prog 12 #[.slice (some ad) 1 c, .int .u64 d] w fun e w' => e = .returned (.int .i64 (findS [x] d)) ∧ Below w.heap.size w w' := find_any d [x] (some ad) c w hr
theorem same_1 (x : Ses) (ad : Addr) (c : Nat) (w : World) (hr : kS.C w (some ad) 1 [x]) : Calls Try.prog 25 #[.slice (some ad) 1 c, .slice (some ad) 1 c] w fun e w' => e = .returned (.bool (decide ([x] = [x]))) ∧ Below w.heap.size w w' := same_any [x] [x] (some ad) (some ad) c c w hr hr
set_option maxHeartbeats 4000000 in
set_option maxRecDepth 100000 in
theorem awake_any (w : World) : Calls Try.prog 9 #[] w fun e w' => e = .returned (.bool true) ∧ Below w.heap.size w w' := by
  go_enter Try.func9, Try.ntmps9
  go_wp2_with (first
    | (go_at_call 15; refine (calls_of_args (by kernel_rfl) (begin_any xa0 10 5 [] none 0 _ (Kd.C_nil _ _) (Nat.le_refl _) (by decide) _ _ aw1)).mono ?_; rintro e w1 ⟨v, rfl, ho, hb⟩; obtain ⟨a1, c1, rfl, hc1, hC1, _, _⟩ := told_one ho; have HA := Aside0.mk hC1; have HC := Aside0.mk hc1; have HB := Aside0.mk hb; clear ho hb hc1 hC1)
    | (go_at_call 17; (with_reducible refine (prove_1 7 10 5 xa1 a1 c1 _ HA.out HC.out _ _ aw2).mono ?_); rintro e w1 ⟨v, rfl, ho, hb⟩; obtain ⟨a2, c2, rfl, hc2, hC2, _, _⟩ := told_one ho; have HA2 := Aside0.mk hC2; have HC2 := Aside0.mk hc2; have HB := Aside0.mk (below_step HB.out hb); clear ho hb hc2 hC2)
    | (go_at_call 11; (with_reducible refine (use_1 7 1 10 14 xa2 a2 c2 _ HA2.out HC2.out _ _ aw3).mono ?_); rintro e w1 ⟨v, rfl, ho, hb⟩; have HA2 := Aside0.mk (Kd.C_below HA2.out hb); have HB := Aside0.mk (below_step HB.out hb); obtain ⟨a3, c3, rfl, hc3, hC3, k1, k2⟩ := told_one ho; have HA3 := Aside0.mk hC3; have HC3 := Aside0.mk hc3; have HO3 := Aside0.mk ho; clear ho hb hc3 hC3 k1 k2)
    | (go_at_call 11; (with_reducible refine (use_1 7 1 10 15 xa2 a2 c2 _ HA2.out HC2.out _ _ aw4).mono ?_); rintro e w1 ⟨v, rfl, ho, hb⟩; have HA3 := Aside0.mk (Kd.C_below HA3.out hb); have HB := Aside0.mk (below_step HB.out hb); clear ho hb)
    | (go_at_call 11; (with_reducible refine (use_1 7 2 10 23 xa3 a3 c3 _ HA3.out HC3.out _ _ aw5).mono ?_); rintro e w1 ⟨v, rfl, ho, hb⟩; have HA3 := Aside0.mk (Kd.C_below HA3.out hb); have HB := Aside0.mk (below_step HB.out hb); obtain ⟨a_, c_, e_, _, _, k1, k2⟩ := told_one (told_C (c := c3) HA3.out HC3.out); cases e_; clear ho hb)
    | (go_at_call 13; (with_reducible refine (may_1 xa3 a3 c3 _ HA3.out HC3.out).mono ?_); rw [aw6]; rintro e w1 ⟨rfl, hb⟩; have HA3 := Aside0.mk (Kd.C_below HA3.out hb); have HB := Aside0.mk (below_step HB.out hb); clear hb k1 k2)
    | (go_at_call 12; (with_reducible refine (find_1 7 xa3 a3 c3 _ HA3.out).mono ?_); rw [aw7]; rintro e w1 ⟨rfl, hb⟩; have HA3 := Aside0.mk (Kd.C_below HA3.out hb); have HB := Aside0.mk (below_step HB.out hb); clear hb)
    | (go_at_call 25; (with_reducible refine (same_1 xa3 a3 c3 _ HA3.out).mono ?_); rw [decide_eq_true rfl]; rintro e w1 ⟨rfl, hb⟩; have HB := Aside0.mk (below_step HB.out hb); clear hb))
  go_ret
  exact ⟨rfl, HB.out⟩
end Go.Proofs.Ytmhphkclgdaajaa.P
