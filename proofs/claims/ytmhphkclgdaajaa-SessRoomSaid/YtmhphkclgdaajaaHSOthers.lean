/- The law SessOthers. Printed by genlaw.py. -/
import Derived.Test.YtmhphkclgdaajaaHSLawP
namespace Go.Proofs.Ytmhphkclgdaajaa.P
open Go.RowKit Go.Lib Go.Proofs.YtmhphkclgdaajaaW.PrintWords Go.Proofs.YtmhphkclgdaajaaW.PrintLast Go.Proofs.YtmhphkclgdaajaaW.PrintMore
set_option linter.unusedVariables false
set_option linter.unusedSimpArgs false
set_option maxHeartbeats 4000000 in
set_option maxRecDepth 100000 in
theorem others_o1 (l : List Ses) (A : Option Addr) (c : Nat) (x : Ses) (count idle now : Int) (w : World) (hr : kS.C w A l.length l) (hc : l.length ≤ c) (hfew : decide (l.length ≤ 8) = false) :
    Calls Try.prog 8 #[.slice A l.length c, .agg (sca x), .int .u64 count, .int .i64 idle, .int .i64 now] w fun e w' => e = .returned (.bool true) ∧ Below w.heap.size w w' := by
  have HR := Aside0.mk hr
  have HC := Aside0.mk hc
  clear hr hc
  have HFEW := Aside0.mk hfew
  clear hfew
  go_enter Try.func8, Try.ntmps8
  go_wp2_with (first
    | (go_at_call 9; (with_reducible refine (awake_any _).mono ?_); rintro e w1 ⟨rfl, hb⟩; have X := Aside0.mk (blk_below (blk_new w (.cells (sca x) 35)) hb); have HB := Aside0.mk (below_step (below_box w x) hb); obtain ⟨x0, _, x2, _, x4, _, _⟩ := cellsS X.out; clear hb)
    | (go_at_call 10; (with_reducible refine (few_any l A c _).mono ?_); rintro e w1 ⟨he_, rfl⟩; rw [HFEW.out] at he_; subst he_))
  go_ret
  exact ⟨rfl, HB.out⟩
set_option maxHeartbeats 4000000 in
set_option maxRecDepth 100000 in
theorem others_o2 (l : List Ses) (A : Option Addr) (c : Nat) (x : Ses) (count idle now : Int) (w : World) (hr : kS.C w A l.length l) (hc : l.length ≤ c) (hfew : decide (l.length ≤ 8) = true) (hm : mayS l = false) :
    Calls Try.prog 8 #[.slice A l.length c, .agg (sca x), .int .u64 count, .int .i64 idle, .int .i64 now] w fun e w' => e = .returned (.bool true) ∧ Below w.heap.size w w' := by
  have HR := Aside0.mk hr
  have HC := Aside0.mk hc
  clear hr hc
  have HFEW := Aside0.mk hfew
  clear hfew
  have HM := Aside0.mk hm
  clear hm
  go_enter Try.func8, Try.ntmps8
  go_wp2_with (first
    | (go_at_call 9; (with_reducible refine (awake_any _).mono ?_); rintro e w1 ⟨rfl, hb⟩; have X := Aside0.mk (blk_below (blk_new w (.cells (sca x) 35)) hb); have HB := Aside0.mk (below_step (below_box w x) hb); obtain ⟨x0, _, x2, _, x4, _, _⟩ := cellsS X.out; clear hb)
    | (go_at_call 10; (with_reducible refine (few_any l A c _).mono ?_); rintro e w1 ⟨he_, rfl⟩; rw [HFEW.out] at he_; subst he_)
    | (go_at_call 13; (with_reducible refine (mayL_any l A c _ (Kd.C_below HR.out HB.out) HC.out).mono ?_); rintro e w1 ⟨he_, hb⟩; rw [HM.out] at he_; subst he_; have HB := Aside0.mk (below_step HB.out hb); have X := Aside0.mk (blk_below X.out hb); clear x0 x2 x4; obtain ⟨x0, _, x2, _, x4, _, _⟩ := cellsS X.out; clear hb))
  go_ret
  exact ⟨rfl, HB.out⟩
set_option maxHeartbeats 4000000 in
set_option maxRecDepth 100000 in
theorem others_w1 (l : List Ses) (A : Option Addr) (c : Nat) (x : Ses) (count idle now : Int) (w : World) (hr : kS.C w A l.length l) (hc : l.length ≤ c) (hfew : decide (l.length ≤ 8) = true) (hm : mayS l = true) (hl : l.length < 1000000) (p u a : List Ses) (e1 e2 e3 : Int) (hp : proveS l x.draw idle now = (p, e1)) (hu : useS l x.draw count idle now = (u, e2)) (ha : beginS l x idle now = (a, e3)) (hlp : p.length < 1000000) (hlu : u.length < 1000000) (hla : a.length < 1000000) (hq : dropS p x.draw = dropS l x.draw) (hv : dropS u x.draw = dropS l x.draw) (hf : findS (dropS l x.draw) x.draw = -1) (he : e3 ≠ 0) :
    Calls Try.prog 8 #[.slice A l.length c, .agg (sca x), .int .u64 count, .int .i64 idle, .int .i64 now] w fun e w' => e = .returned (.bool true) ∧ Below w.heap.size w w' := by
  have HR := Aside0.mk hr
  have HC := Aside0.mk hc
  clear hr hc
  have HFEW := Aside0.mk hfew
  clear hfew
  have HM := Aside0.mk hm
  have HL := Aside0.mk hl
  have HP := Aside0.mk hp
  have HU := Aside0.mk hu
  have HA := Aside0.mk ha
  have HLP := Aside0.mk hlp
  have HLU := Aside0.mk hlu
  have HLA := Aside0.mk hla
  have HF := Aside0.mk hf
  have HQ := Aside0.mk (show decide (dropS p x.draw = dropS l x.draw) = true from decide_eq_true hq)
  have HV := Aside0.mk (show decide (dropS u x.draw = dropS l x.draw) = true from decide_eq_true hv)
  clear hm hl hp hu ha hlp hlu hla hf hq hv
  have he1 : (e3 == 0) = false := by simpa using he
  have he2 : (e3 != 0) = true := by simpa using he
  clear he
  go_enter Try.func8, Try.ntmps8
  go_wp2_with (first
    | (go_at_call 9; (with_reducible refine (awake_any _).mono ?_); rintro e w1 ⟨rfl, hb⟩; have X := Aside0.mk (blk_below (blk_new w (.cells (sca x) 35)) hb); have HB := Aside0.mk (below_step (below_box w x) hb); obtain ⟨x0, _, x2, _, x4, _, _⟩ := cellsS X.out; clear hb)
    | (go_at_call 10; (with_reducible refine (few_any l A c _).mono ?_); rintro e w1 ⟨he_, rfl⟩; rw [HFEW.out] at he_; subst he_)
    | (go_at_call 13; (with_reducible refine (mayL_any l A c _ (Kd.C_below HR.out HB.out) HC.out).mono ?_); rintro e w1 ⟨he_, hb⟩; rw [HM.out] at he_; subst he_; have HB := Aside0.mk (below_step HB.out hb); have X := Aside0.mk (blk_below X.out hb); clear x0 x2 x4; obtain ⟨x0, _, x2, _, x4, _, _⟩ := cellsS X.out; clear hb)
    | (go_at_call 17; (with_reducible refine (prove_any x.draw idle now l A c _ (Kd.C_below HR.out HB.out) HC.out HL.out p e1 HP.out).mono ?_); rintro e w1 ⟨v, rfl, ho, hb⟩; obtain ⟨A1, c1, rfl, hc1, hC1⟩ := ho; have HC1 := Aside0.mk hc1; have H1 := Aside0.mk hC1; have HB := Aside0.mk (below_step HB.out hb); have X := Aside0.mk (blk_below X.out hb); clear x0 x2 x4; obtain ⟨x0, _, x2, _, x4, _, _⟩ := cellsS X.out; clear hb hc1 hC1)
    | (go_at_call 11; (with_reducible refine (use_any x.draw count idle now l A c _ (Kd.C_below HR.out HB.out) HC.out HL.out u e2 HU.out).mono ?_); rintro e w1 ⟨v, rfl, ho, hb⟩; have H1 := Aside0.mk (Kd.C_below H1.out hb); obtain ⟨A2, c2, rfl, hc2, hC2⟩ := ho; have HC2 := Aside0.mk hc2; have H2 := Aside0.mk hC2; have HB := Aside0.mk (below_step HB.out hb); have X := Aside0.mk (blk_below X.out hb); clear x0 x2 x4; obtain ⟨x0, _, x2, _, x4, _, _⟩ := cellsS X.out; clear hb hc2 hC2)
    | (go_at_call 15; (with_reducible refine (begin_any x idle now l A c _ (Kd.C_below HR.out HB.out) HC.out HL.out a e3 HA.out).mono ?_); rintro e w1 ⟨v, rfl, ho, hb⟩; have H1 := Aside0.mk (Kd.C_below H1.out hb); have H2 := Aside0.mk (Kd.C_below H2.out hb); obtain ⟨A3, c3, rfl, hc3, hC3⟩ := ho; have HC3 := Aside0.mk hc3; have H3 := Aside0.mk hC3; have HB := Aside0.mk (below_step HB.out hb); have X := Aside0.mk (blk_below X.out hb); clear x0 x2 x4; obtain ⟨x0, _, x2, _, x4, _, _⟩ := cellsS X.out; clear hb hc3 hC3)
    | (with_reducible refine load_S (.tmp 6) rfl rfl (p := ⟨w.heap.size, 0, none⟩) rfl (cells_box X.out) ?_)
    | (go_at_call 20; (with_reducible refine (drop_any x.draw l A c _ (Kd.C_below HR.out HB.out) HL.out).mono ?_); rintro e w1 ⟨v, rfl, ho, hb⟩; have H1 := Aside0.mk (Kd.C_below H1.out hb); have H2 := Aside0.mk (Kd.C_below H2.out hb); have H3 := Aside0.mk (Kd.C_below H3.out hb); obtain ⟨A4, c4, rfl, hc4, hC4⟩ := ho; have HC4 := Aside0.mk hc4; have H4 := Aside0.mk hC4; have HB := Aside0.mk (below_step HB.out hb); have X := Aside0.mk (blk_below X.out hb); clear x0 x2 x4; obtain ⟨x0, _, x2, _, x4, _, _⟩ := cellsS X.out; clear hb hc4 hC4)
    | (go_at_call 20; (with_reducible refine (drop_any x.draw p A1 c1 _ H1.out HLP.out).mono ?_); rintro e w1 ⟨v, rfl, ho, hb⟩; have H1 := Aside0.mk (Kd.C_below H1.out hb); have H2 := Aside0.mk (Kd.C_below H2.out hb); have H3 := Aside0.mk (Kd.C_below H3.out hb); have H4 := Aside0.mk (Kd.C_below H4.out hb); obtain ⟨A5, c5, rfl, hc5, hC5⟩ := ho; have HC5 := Aside0.mk hc5; have H5 := Aside0.mk hC5; have HB := Aside0.mk (below_step HB.out hb); have X := Aside0.mk (blk_below X.out hb); clear x0 x2 x4; obtain ⟨x0, _, x2, _, x4, _, _⟩ := cellsS X.out; clear hb hc5 hC5)
    | (go_at_call 20; (with_reducible refine (drop_any x.draw u A2 c2 _ H2.out HLU.out).mono ?_); rintro e w1 ⟨v, rfl, ho, hb⟩; have H1 := Aside0.mk (Kd.C_below H1.out hb); have H2 := Aside0.mk (Kd.C_below H2.out hb); have H3 := Aside0.mk (Kd.C_below H3.out hb); have H4 := Aside0.mk (Kd.C_below H4.out hb); have H5 := Aside0.mk (Kd.C_below H5.out hb); obtain ⟨A6, c6, rfl, hc6, hC6⟩ := ho; have HC6 := Aside0.mk hc6; have H6 := Aside0.mk hC6; have HB := Aside0.mk (below_step HB.out hb); have X := Aside0.mk (blk_below X.out hb); clear x0 x2 x4; obtain ⟨x0, _, x2, _, x4, _, _⟩ := cellsS X.out; clear hb hc6 hC6)
    | (go_at_call 25; (with_reducible refine (same_any (dropS p x.draw) (dropS l x.draw) A5 A4 c5 c4 _ H5.out H4.out).mono ?_); rintro e w1 ⟨he_, hb⟩; rw [HQ.out] at he_; subst he_; have H3 := Aside0.mk (Kd.C_below H3.out hb); have H4 := Aside0.mk (Kd.C_below H4.out hb); have H5 := Aside0.mk (Kd.C_below H5.out hb); have H6 := Aside0.mk (Kd.C_below H6.out hb); have HB := Aside0.mk (below_step HB.out hb); have X := Aside0.mk (blk_below X.out hb); clear x0 x2 x4; obtain ⟨x0, _, x2, _, x4, _, _⟩ := cellsS X.out; clear hb)
    | (go_at_call 25; (with_reducible refine (same_any (dropS u x.draw) (dropS l x.draw) A6 A4 c6 c4 _ H6.out H4.out).mono ?_); rintro e w1 ⟨he_, hb⟩; rw [HV.out] at he_; subst he_; have H3 := Aside0.mk (Kd.C_below H3.out hb); have H4 := Aside0.mk (Kd.C_below H4.out hb); have H5 := Aside0.mk (Kd.C_below H5.out hb); have H6 := Aside0.mk (Kd.C_below H6.out hb); have HB := Aside0.mk (below_step HB.out hb); have X := Aside0.mk (blk_below X.out hb); clear x0 x2 x4; obtain ⟨x0, _, x2, _, x4, _, _⟩ := cellsS X.out; clear hb)
    | (go_at_call 12; (with_reducible refine (find_any x.draw (dropS l x.draw) A4 c4 _ H4.out).mono ?_); rintro e w1 ⟨he_, hb⟩; rw [HF.out] at he_; subst he_; have H3 := Aside0.mk (Kd.C_below H3.out hb); have HB := Aside0.mk (below_step HB.out hb); have X := Aside0.mk (blk_below X.out hb); clear x0 x2 x4; obtain ⟨x0, _, x2, _, x4, _, _⟩ := cellsS X.out; clear hb))
  go_ret
  exact ⟨rfl, HB.out⟩
set_option maxHeartbeats 4000000 in
set_option maxRecDepth 100000 in
theorem others_w2 (l : List Ses) (A : Option Addr) (c : Nat) (x : Ses) (count idle now : Int) (w : World) (hr : kS.C w A l.length l) (hc : l.length ≤ c) (hfew : decide (l.length ≤ 8) = true) (hm : mayS l = true) (hl : l.length < 1000000) (p u a : List Ses) (e1 e2 : Int) (hp : proveS l x.draw idle now = (p, e1)) (hu : useS l x.draw count idle now = (u, e2)) (ha : beginS l x idle now = (a, 0)) (hlp : p.length < 1000000) (hlu : u.length < 1000000) (hla : a.length < 1000000) (hq : dropS p x.draw = dropS l x.draw) (hv : dropS u x.draw = dropS l x.draw) (hf : findS (dropS l x.draw) x.draw = -1) (h4 : l.length = 4) :
    Calls Try.prog 8 #[.slice A l.length c, .agg (sca x), .int .u64 count, .int .i64 idle, .int .i64 now] w fun e w' => e = .returned (.bool true) ∧ Below w.heap.size w w' := by
  have HR := Aside0.mk hr
  have HC := Aside0.mk hc
  clear hr hc
  have HFEW := Aside0.mk hfew
  clear hfew
  have HM := Aside0.mk hm
  have HL := Aside0.mk hl
  have HP := Aside0.mk hp
  have HU := Aside0.mk hu
  have HA := Aside0.mk ha
  have HLP := Aside0.mk hlp
  have HLU := Aside0.mk hlu
  have HLA := Aside0.mk hla
  have HF := Aside0.mk hf
  have HQ := Aside0.mk (show decide (dropS p x.draw = dropS l x.draw) = true from decide_eq_true hq)
  have HV := Aside0.mk (show decide (dropS u x.draw = dropS l x.draw) = true from decide_eq_true hv)
  clear hm hl hp hu ha hlp hlu hla hf hq hv
  have hd : ((l.length : Int) == 4) = true := by simp [h4]
  clear h4
  go_enter Try.func8, Try.ntmps8
  go_wp2_with (first
    | (go_at_call 9; (with_reducible refine (awake_any _).mono ?_); rintro e w1 ⟨rfl, hb⟩; have X := Aside0.mk (blk_below (blk_new w (.cells (sca x) 35)) hb); have HB := Aside0.mk (below_step (below_box w x) hb); obtain ⟨x0, _, x2, _, x4, _, _⟩ := cellsS X.out; clear hb)
    | (go_at_call 10; (with_reducible refine (few_any l A c _).mono ?_); rintro e w1 ⟨he_, rfl⟩; rw [HFEW.out] at he_; subst he_)
    | (go_at_call 13; (with_reducible refine (mayL_any l A c _ (Kd.C_below HR.out HB.out) HC.out).mono ?_); rintro e w1 ⟨he_, hb⟩; rw [HM.out] at he_; subst he_; have HB := Aside0.mk (below_step HB.out hb); have X := Aside0.mk (blk_below X.out hb); clear x0 x2 x4; obtain ⟨x0, _, x2, _, x4, _, _⟩ := cellsS X.out; clear hb)
    | (go_at_call 17; (with_reducible refine (prove_any x.draw idle now l A c _ (Kd.C_below HR.out HB.out) HC.out HL.out p e1 HP.out).mono ?_); rintro e w1 ⟨v, rfl, ho, hb⟩; obtain ⟨A1, c1, rfl, hc1, hC1⟩ := ho; have HC1 := Aside0.mk hc1; have H1 := Aside0.mk hC1; have HB := Aside0.mk (below_step HB.out hb); have X := Aside0.mk (blk_below X.out hb); clear x0 x2 x4; obtain ⟨x0, _, x2, _, x4, _, _⟩ := cellsS X.out; clear hb hc1 hC1)
    | (go_at_call 11; (with_reducible refine (use_any x.draw count idle now l A c _ (Kd.C_below HR.out HB.out) HC.out HL.out u e2 HU.out).mono ?_); rintro e w1 ⟨v, rfl, ho, hb⟩; have H1 := Aside0.mk (Kd.C_below H1.out hb); obtain ⟨A2, c2, rfl, hc2, hC2⟩ := ho; have HC2 := Aside0.mk hc2; have H2 := Aside0.mk hC2; have HB := Aside0.mk (below_step HB.out hb); have X := Aside0.mk (blk_below X.out hb); clear x0 x2 x4; obtain ⟨x0, _, x2, _, x4, _, _⟩ := cellsS X.out; clear hb hc2 hC2)
    | (go_at_call 15; (with_reducible refine (begin_any x idle now l A c _ (Kd.C_below HR.out HB.out) HC.out HL.out a 0 HA.out).mono ?_); rintro e w1 ⟨v, rfl, ho, hb⟩; have H1 := Aside0.mk (Kd.C_below H1.out hb); have H2 := Aside0.mk (Kd.C_below H2.out hb); obtain ⟨A3, c3, rfl, hc3, hC3⟩ := ho; have HC3 := Aside0.mk hc3; have H3 := Aside0.mk hC3; have HB := Aside0.mk (below_step HB.out hb); have X := Aside0.mk (blk_below X.out hb); clear x0 x2 x4; obtain ⟨x0, _, x2, _, x4, _, _⟩ := cellsS X.out; clear hb hc3 hC3)
    | (with_reducible refine load_S (.tmp 6) rfl rfl (p := ⟨w.heap.size, 0, none⟩) rfl (cells_box X.out) ?_)
    | (go_at_call 20; (with_reducible refine (drop_any x.draw l A c _ (Kd.C_below HR.out HB.out) HL.out).mono ?_); rintro e w1 ⟨v, rfl, ho, hb⟩; have H1 := Aside0.mk (Kd.C_below H1.out hb); have H2 := Aside0.mk (Kd.C_below H2.out hb); have H3 := Aside0.mk (Kd.C_below H3.out hb); obtain ⟨A4, c4, rfl, hc4, hC4⟩ := ho; have HC4 := Aside0.mk hc4; have H4 := Aside0.mk hC4; have HB := Aside0.mk (below_step HB.out hb); have X := Aside0.mk (blk_below X.out hb); clear x0 x2 x4; obtain ⟨x0, _, x2, _, x4, _, _⟩ := cellsS X.out; clear hb hc4 hC4)
    | (go_at_call 20; (with_reducible refine (drop_any x.draw p A1 c1 _ H1.out HLP.out).mono ?_); rintro e w1 ⟨v, rfl, ho, hb⟩; have H1 := Aside0.mk (Kd.C_below H1.out hb); have H2 := Aside0.mk (Kd.C_below H2.out hb); have H3 := Aside0.mk (Kd.C_below H3.out hb); have H4 := Aside0.mk (Kd.C_below H4.out hb); obtain ⟨A5, c5, rfl, hc5, hC5⟩ := ho; have HC5 := Aside0.mk hc5; have H5 := Aside0.mk hC5; have HB := Aside0.mk (below_step HB.out hb); have X := Aside0.mk (blk_below X.out hb); clear x0 x2 x4; obtain ⟨x0, _, x2, _, x4, _, _⟩ := cellsS X.out; clear hb hc5 hC5)
    | (go_at_call 20; (with_reducible refine (drop_any x.draw u A2 c2 _ H2.out HLU.out).mono ?_); rintro e w1 ⟨v, rfl, ho, hb⟩; have H1 := Aside0.mk (Kd.C_below H1.out hb); have H2 := Aside0.mk (Kd.C_below H2.out hb); have H3 := Aside0.mk (Kd.C_below H3.out hb); have H4 := Aside0.mk (Kd.C_below H4.out hb); have H5 := Aside0.mk (Kd.C_below H5.out hb); obtain ⟨A6, c6, rfl, hc6, hC6⟩ := ho; have HC6 := Aside0.mk hc6; have H6 := Aside0.mk hC6; have HB := Aside0.mk (below_step HB.out hb); have X := Aside0.mk (blk_below X.out hb); clear x0 x2 x4; obtain ⟨x0, _, x2, _, x4, _, _⟩ := cellsS X.out; clear hb hc6 hC6)
    | (go_at_call 25; (with_reducible refine (same_any (dropS p x.draw) (dropS l x.draw) A5 A4 c5 c4 _ H5.out H4.out).mono ?_); rintro e w1 ⟨he_, hb⟩; rw [HQ.out] at he_; subst he_; have H3 := Aside0.mk (Kd.C_below H3.out hb); have H4 := Aside0.mk (Kd.C_below H4.out hb); have H5 := Aside0.mk (Kd.C_below H5.out hb); have H6 := Aside0.mk (Kd.C_below H6.out hb); have HB := Aside0.mk (below_step HB.out hb); have X := Aside0.mk (blk_below X.out hb); clear x0 x2 x4; obtain ⟨x0, _, x2, _, x4, _, _⟩ := cellsS X.out; clear hb)
    | (go_at_call 25; (with_reducible refine (same_any (dropS u x.draw) (dropS l x.draw) A6 A4 c6 c4 _ H6.out H4.out).mono ?_); rintro e w1 ⟨he_, hb⟩; rw [HV.out] at he_; subst he_; have H3 := Aside0.mk (Kd.C_below H3.out hb); have H4 := Aside0.mk (Kd.C_below H4.out hb); have H5 := Aside0.mk (Kd.C_below H5.out hb); have H6 := Aside0.mk (Kd.C_below H6.out hb); have HB := Aside0.mk (below_step HB.out hb); have X := Aside0.mk (blk_below X.out hb); clear x0 x2 x4; obtain ⟨x0, _, x2, _, x4, _, _⟩ := cellsS X.out; clear hb)
    | (go_at_call 12; (with_reducible refine (find_any x.draw (dropS l x.draw) A4 c4 _ H4.out).mono ?_); rintro e w1 ⟨he_, hb⟩; rw [HF.out] at he_; subst he_; have H3 := Aside0.mk (Kd.C_below H3.out hb); have HB := Aside0.mk (below_step HB.out hb); have X := Aside0.mk (blk_below X.out hb); clear x0 x2 x4; obtain ⟨x0, _, x2, _, x4, _, _⟩ := cellsS X.out; clear hb))
  go_ret
  exact ⟨rfl, HB.out⟩
set_option maxHeartbeats 4000000 in
set_option maxRecDepth 100000 in
theorem others_w3 (l : List Ses) (A : Option Addr) (c : Nat) (x : Ses) (count idle now : Int) (w : World) (hr : kS.C w A l.length l) (hc : l.length ≤ c) (hfew : decide (l.length ≤ 8) = true) (hm : mayS l = true) (hl : l.length < 1000000) (p u a : List Ses) (e1 e2 : Int) (hp : proveS l x.draw idle now = (p, e1)) (hu : useS l x.draw count idle now = (u, e2)) (ha : beginS l x idle now = (a, 0)) (hlp : p.length < 1000000) (hlu : u.length < 1000000) (hla : a.length < 1000000) (hq : dropS p x.draw = dropS l x.draw) (hv : dropS u x.draw = dropS l x.draw) (hf : findS (dropS l x.draw) x.draw = -1) (h4 : l.length ≠ 4) (hs : dropS a x.draw = l) :
    Calls Try.prog 8 #[.slice A l.length c, .agg (sca x), .int .u64 count, .int .i64 idle, .int .i64 now] w fun e w' => e = .returned (.bool true) ∧ Below w.heap.size w w' := by
  have HR := Aside0.mk hr
  have HC := Aside0.mk hc
  clear hr hc
  have HFEW := Aside0.mk hfew
  clear hfew
  have HM := Aside0.mk hm
  have HL := Aside0.mk hl
  have HP := Aside0.mk hp
  have HU := Aside0.mk hu
  have HA := Aside0.mk ha
  have HLP := Aside0.mk hlp
  have HLU := Aside0.mk hlu
  have HLA := Aside0.mk hla
  have HF := Aside0.mk hf
  have HQ := Aside0.mk (show decide (dropS p x.draw = dropS l x.draw) = true from decide_eq_true hq)
  have HV := Aside0.mk (show decide (dropS u x.draw = dropS l x.draw) = true from decide_eq_true hv)
  clear hm hl hp hu ha hlp hlu hla hf hq hv
  have hd : ((l.length : Int) == 4) = false := by simpa using (show ¬ ((l.length : Int) = 4) by omega)
  have HS := Aside0.mk (show decide (dropS a x.draw = l) = true from decide_eq_true hs)
  clear h4 hs
  go_enter Try.func8, Try.ntmps8
  go_wp2_with (first
    | (go_at_call 9; (with_reducible refine (awake_any _).mono ?_); rintro e w1 ⟨rfl, hb⟩; have X := Aside0.mk (blk_below (blk_new w (.cells (sca x) 35)) hb); have HB := Aside0.mk (below_step (below_box w x) hb); obtain ⟨x0, _, x2, _, x4, _, _⟩ := cellsS X.out; clear hb)
    | (go_at_call 10; (with_reducible refine (few_any l A c _).mono ?_); rintro e w1 ⟨he_, rfl⟩; rw [HFEW.out] at he_; subst he_)
    | (go_at_call 13; (with_reducible refine (mayL_any l A c _ (Kd.C_below HR.out HB.out) HC.out).mono ?_); rintro e w1 ⟨he_, hb⟩; rw [HM.out] at he_; subst he_; have HB := Aside0.mk (below_step HB.out hb); have X := Aside0.mk (blk_below X.out hb); clear x0 x2 x4; obtain ⟨x0, _, x2, _, x4, _, _⟩ := cellsS X.out; clear hb)
    | (go_at_call 17; (with_reducible refine (prove_any x.draw idle now l A c _ (Kd.C_below HR.out HB.out) HC.out HL.out p e1 HP.out).mono ?_); rintro e w1 ⟨v, rfl, ho, hb⟩; obtain ⟨A1, c1, rfl, hc1, hC1⟩ := ho; have HC1 := Aside0.mk hc1; have H1 := Aside0.mk hC1; have HB := Aside0.mk (below_step HB.out hb); have X := Aside0.mk (blk_below X.out hb); clear x0 x2 x4; obtain ⟨x0, _, x2, _, x4, _, _⟩ := cellsS X.out; clear hb hc1 hC1)
    | (go_at_call 11; (with_reducible refine (use_any x.draw count idle now l A c _ (Kd.C_below HR.out HB.out) HC.out HL.out u e2 HU.out).mono ?_); rintro e w1 ⟨v, rfl, ho, hb⟩; have H1 := Aside0.mk (Kd.C_below H1.out hb); obtain ⟨A2, c2, rfl, hc2, hC2⟩ := ho; have HC2 := Aside0.mk hc2; have H2 := Aside0.mk hC2; have HB := Aside0.mk (below_step HB.out hb); have X := Aside0.mk (blk_below X.out hb); clear x0 x2 x4; obtain ⟨x0, _, x2, _, x4, _, _⟩ := cellsS X.out; clear hb hc2 hC2)
    | (go_at_call 15; (with_reducible refine (begin_any x idle now l A c _ (Kd.C_below HR.out HB.out) HC.out HL.out a 0 HA.out).mono ?_); rintro e w1 ⟨v, rfl, ho, hb⟩; have H1 := Aside0.mk (Kd.C_below H1.out hb); have H2 := Aside0.mk (Kd.C_below H2.out hb); obtain ⟨A3, c3, rfl, hc3, hC3⟩ := ho; have HC3 := Aside0.mk hc3; have H3 := Aside0.mk hC3; have HB := Aside0.mk (below_step HB.out hb); have X := Aside0.mk (blk_below X.out hb); clear x0 x2 x4; obtain ⟨x0, _, x2, _, x4, _, _⟩ := cellsS X.out; clear hb hc3 hC3)
    | (with_reducible refine load_S (.tmp 6) rfl rfl (p := ⟨w.heap.size, 0, none⟩) rfl (cells_box X.out) ?_)
    | (go_at_call 20; (with_reducible refine (drop_any x.draw l A c _ (Kd.C_below HR.out HB.out) HL.out).mono ?_); rintro e w1 ⟨v, rfl, ho, hb⟩; have H1 := Aside0.mk (Kd.C_below H1.out hb); have H2 := Aside0.mk (Kd.C_below H2.out hb); have H3 := Aside0.mk (Kd.C_below H3.out hb); obtain ⟨A4, c4, rfl, hc4, hC4⟩ := ho; have HC4 := Aside0.mk hc4; have H4 := Aside0.mk hC4; have HB := Aside0.mk (below_step HB.out hb); have X := Aside0.mk (blk_below X.out hb); clear x0 x2 x4; obtain ⟨x0, _, x2, _, x4, _, _⟩ := cellsS X.out; clear hb hc4 hC4)
    | (go_at_call 20; (with_reducible refine (drop_any x.draw p A1 c1 _ H1.out HLP.out).mono ?_); rintro e w1 ⟨v, rfl, ho, hb⟩; have H1 := Aside0.mk (Kd.C_below H1.out hb); have H2 := Aside0.mk (Kd.C_below H2.out hb); have H3 := Aside0.mk (Kd.C_below H3.out hb); have H4 := Aside0.mk (Kd.C_below H4.out hb); obtain ⟨A5, c5, rfl, hc5, hC5⟩ := ho; have HC5 := Aside0.mk hc5; have H5 := Aside0.mk hC5; have HB := Aside0.mk (below_step HB.out hb); have X := Aside0.mk (blk_below X.out hb); clear x0 x2 x4; obtain ⟨x0, _, x2, _, x4, _, _⟩ := cellsS X.out; clear hb hc5 hC5)
    | (go_at_call 20; (with_reducible refine (drop_any x.draw u A2 c2 _ H2.out HLU.out).mono ?_); rintro e w1 ⟨v, rfl, ho, hb⟩; have H1 := Aside0.mk (Kd.C_below H1.out hb); have H2 := Aside0.mk (Kd.C_below H2.out hb); have H3 := Aside0.mk (Kd.C_below H3.out hb); have H4 := Aside0.mk (Kd.C_below H4.out hb); have H5 := Aside0.mk (Kd.C_below H5.out hb); obtain ⟨A6, c6, rfl, hc6, hC6⟩ := ho; have HC6 := Aside0.mk hc6; have H6 := Aside0.mk hC6; have HB := Aside0.mk (below_step HB.out hb); have X := Aside0.mk (blk_below X.out hb); clear x0 x2 x4; obtain ⟨x0, _, x2, _, x4, _, _⟩ := cellsS X.out; clear hb hc6 hC6)
    | (go_at_call 25; (with_reducible refine (same_any (dropS p x.draw) (dropS l x.draw) A5 A4 c5 c4 _ H5.out H4.out).mono ?_); rintro e w1 ⟨he_, hb⟩; rw [HQ.out] at he_; subst he_; have H3 := Aside0.mk (Kd.C_below H3.out hb); have H4 := Aside0.mk (Kd.C_below H4.out hb); have H5 := Aside0.mk (Kd.C_below H5.out hb); have H6 := Aside0.mk (Kd.C_below H6.out hb); have HB := Aside0.mk (below_step HB.out hb); have X := Aside0.mk (blk_below X.out hb); clear x0 x2 x4; obtain ⟨x0, _, x2, _, x4, _, _⟩ := cellsS X.out; clear hb)
    | (go_at_call 25; (with_reducible refine (same_any (dropS u x.draw) (dropS l x.draw) A6 A4 c6 c4 _ H6.out H4.out).mono ?_); rintro e w1 ⟨he_, hb⟩; rw [HV.out] at he_; subst he_; have H3 := Aside0.mk (Kd.C_below H3.out hb); have H4 := Aside0.mk (Kd.C_below H4.out hb); have H5 := Aside0.mk (Kd.C_below H5.out hb); have H6 := Aside0.mk (Kd.C_below H6.out hb); have HB := Aside0.mk (below_step HB.out hb); have X := Aside0.mk (blk_below X.out hb); clear x0 x2 x4; obtain ⟨x0, _, x2, _, x4, _, _⟩ := cellsS X.out; clear hb)
    | (go_at_call 12; (with_reducible refine (find_any x.draw (dropS l x.draw) A4 c4 _ H4.out).mono ?_); rintro e w1 ⟨he_, hb⟩; rw [HF.out] at he_; subst he_; have H3 := Aside0.mk (Kd.C_below H3.out hb); have HB := Aside0.mk (below_step HB.out hb); have X := Aside0.mk (blk_below X.out hb); clear x0 x2 x4; obtain ⟨x0, _, x2, _, x4, _, _⟩ := cellsS X.out; clear hb)
    | (go_at_call 20; (with_reducible refine (drop_any x.draw a A3 c3 _ H3.out HLA.out).mono ?_); rintro e w1 ⟨v, rfl, ho, hb⟩; obtain ⟨A7, c7, rfl, hc7, hC7⟩ := ho; have HC7 := Aside0.mk hc7; have H7 := Aside0.mk hC7; have HB := Aside0.mk (below_step HB.out hb); have X := Aside0.mk (blk_below X.out hb); clear x0 x2 x4; obtain ⟨x0, _, x2, _, x4, _, _⟩ := cellsS X.out; clear hb hc7 hC7)
    | (go_at_call 25; (with_reducible refine (same_any (dropS a x.draw) l A7 A c7 c _ H7.out (Kd.C_below HR.out HB.out)).mono ?_); rintro e w1 ⟨he_, hb⟩; rw [HS.out] at he_; subst he_; have HB := Aside0.mk (below_step HB.out hb); have X := Aside0.mk (blk_below X.out hb); clear x0 x2 x4; obtain ⟨x0, _, x2, _, x4, _, _⟩ := cellsS X.out; clear hb))
  go_ret
  exact ⟨rfl, HB.out⟩
theorem drop_erase {l : List Ses} (h : mayP l) {d : Int} {i : Nat} (hf : findS l d = i) : dropS (l.eraseIdx i) d = l.eraseIdx i := by
  unfold dropS
  rw [if_pos (find_erase h hf)]
theorem drop_at {l : List Ses} {d : Int} {i : Nat} (hf : findS l d = i) : dropS l d = l.eraseIdx i := by
  unfold dropS
  rw [if_neg (by omega), hf, Int.toNat_natCast]
theorem drop_set {l : List Ses} {d : Int} {i : Nat} {x x' : Ses} (hf : findS l d = i) (hx : l[i]? = some x) (hd : x'.draw = x.draw) : dropS (l.set i x') d = l.eraseIdx i := by
  rw [drop_at (by rw [find_set hx hd]; exact hf)]
  rw [List.eraseIdx_set_eq]
theorem drop_none {l : List Ses} (h : mayP l) (d : Int) : findS (dropS l d) d = -1 := by
  have hge := findS_ge l d
  by_cases hn : findS l d = -1
  · unfold dropS
    rw [if_pos hn]
    exact hn
  · obtain ⟨i, hi⟩ : ∃ i : Nat, findS l d = i := ⟨(findS l d).toNat, by omega⟩
    rw [drop_at hi]
    exact find_erase h hi
theorem proveS_spec (l : List Ses) (d idle now : Int) : ∃ r e, proveS l d idle now = (r, e) ∧
    ((e = 1 ∧ r = l ∧ (mayS l = false ∨ timesB idle now = false)) ∨
    (mayS l = true ∧ timesB idle now = true ∧ ((e = 5 ∧ r = l ∧ findS l d = -1) ∨
      ∃ (i : Nat) (x : Ses), findS l d = i ∧ l[i]? = some x ∧ ((e = 9 ∧ r = l.eraseIdx i ∧ lateB x idle now = true) ∨
        (lateB x idle now = false ∧ ((e = 6 ∧ r = l ∧ x.isOpen = true) ∨ (x.isOpen = false ∧ e = 0 ∧ r = l.set i { { x with isOpen := true } with last := now })))))))  := by
  cases hm : mayS l with
  | false => exact ⟨l, 1, proveS_no (oldS_1 (.inl hm)) (by decide), .inl ⟨rfl, rfl, .inl rfl⟩⟩
  | true =>
  cases ht : timesB idle now with
  | false => exact ⟨l, 1, proveS_no (oldS_1 (.inr ht)) (by decide), .inl ⟨rfl, rfl, .inr rfl⟩⟩
  | true =>
  have hge := findS_ge l d
  by_cases hn : findS l d = -1
  · exact ⟨l, 5, proveS_no (oldS_5 hm ht hn) (by decide), .inr ⟨rfl, rfl, .inl ⟨rfl, rfl, hn⟩⟩⟩
  obtain ⟨i, hi⟩ : ∃ i : Nat, findS l d = i := ⟨(findS l d).toNat, by omega⟩
  have hlt : i < l.length := by omega
  obtain ⟨x, hx⟩ : ∃ x, l[i]? = some x := ⟨_, List.getElem?_eq_getElem hlt⟩
  cases hl : lateB x idle now with
  | true => exact ⟨l.eraseIdx i, 9, proveS_no (oldS_9 hm ht hi hx rfl hl) (by decide), .inr ⟨rfl, rfl, .inr ⟨i, x, hi, hx, .inl ⟨rfl, rfl, hl⟩⟩⟩⟩
  | false =>
  have hu := proveS_ok (oldS_0 hm ht hi hx rfl hl) hx
  cases ho : x.isOpen with
  | true => exact ⟨l, 6, by rw [hu, if_pos ho], .inr ⟨rfl, rfl, .inr ⟨i, x, hi, hx, .inr ⟨hl, .inl ⟨rfl, rfl, ho⟩⟩⟩⟩⟩
  | false => exact ⟨_, 0, by rw [hu, if_neg (by rw [ho]; decide)], .inr ⟨rfl, rfl, .inr ⟨i, x, hi, hx, .inr ⟨hl, .inr ⟨ho, rfl, rfl⟩⟩⟩⟩⟩
/-- All that Begin tells. -/
theorem beginS_spec (l : List Ses) (x : Ses) (idle now : Int) : ∃ r e, beginS l x idle now = (r, e) ∧
    ((e = 1 ∧ r = l ∧ (mayS l = false ∨ timesB idle now = false ∨ mayB x = false ∨ x.isOpen = true)) ∨
    (mayS l = true ∧ timesB idle now = true ∧ mayB x = true ∧ x.isOpen = false ∧ ((e = 6 ∧ r = l ∧ findS l x.draw ≠ -1) ∨
      (findS l x.draw = -1 ∧ ((e = 12 ∧ r = l ∧ l.length = 4 ∧ (awakeS l idle now).length = 4) ∨
        (e = 0 ∧ ((l.length = 4 ∧ (awakeS l idle now).length ≠ 4 ∧ r = awakeS l idle now ++ [{ x with last := now }]) ∨ (l.length ≠ 4 ∧ r = l ++ [{ x with last := now }])))))))) := by
  unfold beginS
  by_cases h0 : mayS l = false ∨ timesB idle now = false ∨ mayB x = false ∨ x.isOpen = true
  · exact ⟨l, 1, by rw [if_pos h0], .inl ⟨rfl, rfl, h0⟩⟩
  rw [if_neg h0]
  have h1 : mayS l = true := by
    cases e : mayS l with
    | true => rfl
    | false => exact absurd (.inl e) h0
  have h2 : timesB idle now = true := by
    cases e : timesB idle now with
    | true => rfl
    | false => exact absurd (.inr (.inl e)) h0
  have h3 : mayB x = true := by
    cases e : mayB x with
    | true => rfl
    | false => exact absurd (.inr (.inr (.inl e))) h0
  have h4 : x.isOpen = false := by
    cases e : x.isOpen with
    | false => rfl
    | true => exact absurd (.inr (.inr (.inr e))) h0
  by_cases h5 : findS l x.draw = -1
  · rw [if_pos h5]
    by_cases h6 : l.length = 4
    · rw [if_pos h6]
      by_cases h7 : (awakeS l idle now).length = 4
      · exact ⟨l, 12, by rw [if_pos h7], .inr ⟨h1, h2, h3, h4, .inr ⟨h5, .inl ⟨rfl, rfl, h6, h7⟩⟩⟩⟩
      · exact ⟨_, 0, by rw [if_neg h7], .inr ⟨h1, h2, h3, h4, .inr ⟨h5, .inr ⟨rfl, .inl ⟨h6, h7, rfl⟩⟩⟩⟩⟩
    · exact ⟨_, 0, by rw [if_neg h6, if_neg h6], .inr ⟨h1, h2, h3, h4, .inr ⟨h5, .inr ⟨rfl, .inr ⟨h6, rfl⟩⟩⟩⟩⟩
  · exact ⟨l, 6, by rw [if_neg h5], .inr ⟨h1, h2, h3, h4, .inl ⟨rfl, rfl, h5⟩⟩⟩
theorem proveS_len {l : List Ses} {d idle now : Int} {r : List Ses} {e : Int} (h : proveS l d idle now = (r, e)) : r.length ≤ l.length := by
  obtain ⟨r', e', h', hc⟩ := proveS_spec l d idle now
  rw [h] at h'
  cases h'
  rcases hc with ⟨_, rfl, _⟩ | ⟨_, _, ⟨_, rfl, _⟩ | ⟨i, x, _, _, ⟨_, rfl, _⟩ | ⟨_, ⟨_, rfl, _⟩ | ⟨_, _, rfl⟩⟩⟩⟩
  · exact Nat.le_refl _
  · exact Nat.le_refl _
  · exact (List.eraseIdx_sublist _ _).length_le
  · exact Nat.le_refl _
  · rw [List.length_set]; exact Nat.le_refl _
theorem beginS_len {l : List Ses} {x : Ses} {idle now : Int} {r : List Ses} {e : Int} (h : beginS l x idle now = (r, e)) : r.length ≤ l.length + 1 := by
  obtain ⟨r', e', h', hc⟩ := beginS_spec l x idle now
  rw [h] at h'
  cases h'
  have hf : (awakeS l idle now).length ≤ l.length := List.length_filter_le _ _
  rcases hc with ⟨_, rfl, _⟩ | ⟨_, _, _, _, ⟨_, rfl, _⟩ | ⟨_, ⟨_, rfl, _⟩ | ⟨_, ⟨_, _, rfl⟩ | ⟨_, rfl⟩⟩⟩⟩
  · omega
  · omega
  · omega
  · rw [List.length_append, List.length_singleton]; omega
  · rw [List.length_append, List.length_singleton]; omega
theorem drop_use {l : List Ses} {d count idle now : Int} {r : List Ses} {e : Int} (h : useS l d count idle now = (r, e)) (hm : mayP l) : dropS r d = dropS l d := by
  obtain ⟨r', e', h', hc⟩ := useS_spec l d count idle now
  rw [h] at h'
  cases h'
  rcases hc with ⟨_, rfl, _⟩ | ⟨_, _, ⟨_, rfl, _⟩ | ⟨i, x, hf, hx, _, ⟨_, rfl, _⟩ | ⟨_, ⟨_, rfl, _⟩ | ⟨_, _, _, rfl⟩ | ⟨_, _, _, rfl⟩⟩⟩⟩
  · rfl
  · rfl
  · rw [drop_erase hm hf, drop_at hf]
  · rfl
  · rw [drop_erase hm hf, drop_at hf]
  · rw [drop_set hf hx (by rfl), drop_at hf]
theorem drop_prove {l : List Ses} {d idle now : Int} {r : List Ses} {e : Int} (h : proveS l d idle now = (r, e)) (hm : mayP l) : dropS r d = dropS l d := by
  obtain ⟨r', e', h', hc⟩ := proveS_spec l d idle now
  rw [h] at h'
  cases h'
  rcases hc with ⟨_, rfl, _⟩ | ⟨_, _, ⟨_, rfl, _⟩ | ⟨i, x, hf, hx, ⟨_, rfl, _⟩ | ⟨_, ⟨_, rfl, _⟩ | ⟨_, _, rfl⟩⟩⟩⟩
  · rfl
  · rfl
  · rw [drop_erase hm hf, drop_at hf]
  · rfl
  · rw [drop_set hf hx (by rfl), drop_at hf]
theorem drop_snoc {l : List Ses} {x : Ses} (h : findS l x.draw = -1) (n : Int) : dropS (l ++ [{ x with last := n }]) x.draw = l := by
  have hf : findS (l ++ [{ x with last := n }]) x.draw = l.length := by
    refine idxS_at _ (x := { x with last := n }) (by simp) (fun y hy => ?_) (by simp)
    rw [List.take_left] at hy
    simpa using (findS_none_iff _ _).1 h y hy
  rw [drop_at hf, List.eraseIdx_append_of_length_le (Nat.le_refl _)]
  simp
theorem sessOthers_any (l : List Ses) (A : Option Addr) (c : Nat) (x : Ses) (count idle now : Int) (w : World) (hr : kS.C w A l.length l) (hc : l.length ≤ c) (gl : l.length ≤ maxLen ∧ ∀ x ∈ l, GS x) (gx : GS x) (g2 : (Lit.int .u64 count).wf = true) (g4 : (Lit.int .i64 idle).wf = true) (g5 : (Lit.int .i64 now).wf = true) :
    Calls Try.prog 8 #[.slice A l.length c, .agg (sca x), .int .u64 count, .int .i64 idle, .int .i64 now] w fun e w' => e = .returned (.bool true) ∧ Below w.heap.size w w' := by
  by_cases hfew : l.length ≤ 8
  · have hf := decide_eq_true hfew
    have hl : l.length < 1000000 := by omega
    cases hm : mayS l with
    | false => exact others_o2 l A c x count idle now w hr hc hf hm
    | true =>
      have hmp := (mayS_iff l).1 hm
      obtain ⟨p, e1, hp, _⟩ := proveS_spec l x.draw idle now
      obtain ⟨u, e2, hu, _⟩ := useS_spec l x.draw count idle now
      obtain ⟨a, e3, ha, ca⟩ := beginS_spec l x idle now
      have h1 := proveS_len hp
      have h2 := useS_len hu
      have h3 := beginS_len ha
      by_cases he : e3 = 0
      · subst he
        rcases ca with ⟨h', _⟩ | ⟨_, _, _, _, ⟨h', _⟩ | ⟨hfx, ⟨h', _⟩ | ⟨_, ⟨h4, _, _⟩ | ⟨h4, rfl⟩⟩⟩⟩
        · omega
        · omega
        · omega
        · exact others_w2 l A c x count idle now w hr hc hf hm hl p u a e1 e2 hp hu ha (by omega) (by omega) (by omega) (drop_prove hp hmp) (drop_use hu hmp) (drop_none hmp _) h4
        · exact others_w3 l A c x count idle now w hr hc hf hm hl p u _ e1 e2 hp hu ha (by omega) (by omega) (by omega) (drop_prove hp hmp) (drop_use hu hmp) (drop_none hmp _) h4 (drop_snoc hfx now)
      · exact others_w1 l A c x count idle now w hr hc hf hm hl p u a e1 e2 e3 hp hu ha (by omega) (by omega) (by omega) (drop_prove hp hmp) (drop_use hu hmp) (drop_none hmp _) he
  · exact others_o1 l A c x count idle now w hr hc (decide_eq_false hfew)
end Go.Proofs.Ytmhphkclgdaajaa.P
