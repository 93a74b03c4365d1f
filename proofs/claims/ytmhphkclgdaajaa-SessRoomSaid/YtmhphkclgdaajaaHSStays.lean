/- The law SessStays. Printed by genlaw.py. -/
import Derived.Test.YtmhphkclgdaajaaHSOthers
namespace Go.Proofs.Ytmhphkclgdaajaa.P
open Go.RowKit Go.Lib Go.Proofs.YtmhphkclgdaajaaW.PrintWords Go.Proofs.YtmhphkclgdaajaaW.PrintLast Go.Proofs.YtmhphkclgdaajaaW.PrintMore
set_option linter.unusedVariables false
set_option linter.unusedSimpArgs false
set_option maxHeartbeats 4000000 in
set_option maxRecDepth 100000 in
theorem stays_o1 (l : List Ses) (A : Option Addr) (c : Nat) (x : Ses) (count idle now : Int) (w : World) (hr : kS.C w A l.length l) (hc : l.length ≤ c) (hfew : decide (l.length ≤ 8) = false) :
    Calls Try.prog 7 #[.slice A l.length c, .agg (sca x), .int .u64 count, .int .i64 idle, .int .i64 now] w fun e w' => e = .returned (.bool true) ∧ Below w.heap.size w w' := by
  have HR := Aside0.mk hr
  have HC := Aside0.mk hc
  clear hr hc
  have HFEW := Aside0.mk hfew
  clear hfew
  go_enter Try.func7, Try.ntmps7
  go_wp2_with (first
    | (go_at_call 9; (with_reducible refine (awake_any _).mono ?_); rintro e w1 ⟨rfl, hb⟩; have X := Aside0.mk (blk_below (blk_new w (.cells (sca x) 35)) hb); have HB := Aside0.mk (below_step (below_box w x) hb); obtain ⟨x0, _, x2, _, x4, _, _⟩ := cellsS X.out; clear hb)
    | (go_at_call 10; (with_reducible refine (few_any l A c _).mono ?_); rintro e w1 ⟨he_, rfl⟩; rw [HFEW.out] at he_; subst he_))
  go_ret
  exact ⟨rfl, HB.out⟩
set_option maxHeartbeats 4000000 in
set_option maxRecDepth 100000 in
theorem stays_w0 (l : List Ses) (A : Option Addr) (c : Nat) (x : Ses) (count idle now : Int) (w : World) (hr : kS.C w A l.length l) (hc : l.length ≤ c) (hfew : decide (l.length ≤ 8) = true) (hm : mayS l = false) (hl : l.length < 1000000) (ha : beginS l x idle now = (l, 1)) (hp : proveS l x.draw idle now = (l, 1)) (hu : useS l x.draw count idle now = (l, 1)) :
    Calls Try.prog 7 #[.slice A l.length c, .agg (sca x), .int .u64 count, .int .i64 idle, .int .i64 now] w fun e w' => e = .returned (.bool true) ∧ Below w.heap.size w w' := by
  have HR := Aside0.mk hr
  have HC := Aside0.mk hc
  clear hr hc
  have HFEW := Aside0.mk hfew
  clear hfew
  have HM := Aside0.mk hm
  have HL := Aside0.mk hl
  have HA := Aside0.mk ha
  have HP := Aside0.mk hp
  have HU := Aside0.mk hu
  clear hm hl ha hp hu
  go_enter Try.func7, Try.ntmps7
  go_wp2_with (first
    | (go_at_call 9; (with_reducible refine (awake_any _).mono ?_); rintro e w1 ⟨rfl, hb⟩; have X := Aside0.mk (blk_below (blk_new w (.cells (sca x) 35)) hb); have HB := Aside0.mk (below_step (below_box w x) hb); obtain ⟨x0, _, x2, _, x4, _, _⟩ := cellsS X.out; clear hb)
    | (go_at_call 10; (with_reducible refine (few_any l A c _).mono ?_); rintro e w1 ⟨he_, rfl⟩; rw [HFEW.out] at he_; subst he_)
    | (with_reducible refine load_S (.tmp 6) rfl rfl (p := ⟨w.heap.size, 0, none⟩) rfl (cells_box X.out) ?_)
    | (go_at_call 15; (with_reducible refine (begin_any x idle now l A c _ (Kd.C_below HR.out HB.out) HC.out HL.out l 1 HA.out).mono ?_); rintro e w1 ⟨v, rfl, ho, hb⟩; obtain ⟨A1, c1, rfl, hc1, hC1⟩ := ho; have HC1 := Aside0.mk hc1; have H1 := Aside0.mk hC1; have HB := Aside0.mk (below_step HB.out hb); have X := Aside0.mk (blk_below X.out hb); clear x0 x2 x4; obtain ⟨x0, _, x2, _, x4, _, _⟩ := cellsS X.out; clear hb hc1 hC1)
    | (go_at_call 17; (with_reducible refine (prove_any x.draw idle now l A c _ (Kd.C_below HR.out HB.out) HC.out HL.out l 1 HP.out).mono ?_); rintro e w1 ⟨v, rfl, ho, hb⟩; have H1 := Aside0.mk (Kd.C_below H1.out hb); obtain ⟨A2, c2, rfl, hc2, hC2⟩ := ho; have HC2 := Aside0.mk hc2; have H2 := Aside0.mk hC2; have HB := Aside0.mk (below_step HB.out hb); have X := Aside0.mk (blk_below X.out hb); clear x0 x2 x4; obtain ⟨x0, _, x2, _, x4, _, _⟩ := cellsS X.out; clear hb hc2 hC2)
    | (go_at_call 11; (with_reducible refine (use_any x.draw count idle now l A c _ (Kd.C_below HR.out HB.out) HC.out HL.out l 1 HU.out).mono ?_); rintro e w1 ⟨v, rfl, ho, hb⟩; have H1 := Aside0.mk (Kd.C_below H1.out hb); have H2 := Aside0.mk (Kd.C_below H2.out hb); obtain ⟨A3, c3, rfl, hc3, hC3⟩ := ho; have HC3 := Aside0.mk hc3; have H3 := Aside0.mk hC3; have HB := Aside0.mk (below_step HB.out hb); have X := Aside0.mk (blk_below X.out hb); clear x0 x2 x4; obtain ⟨x0, _, x2, _, x4, _, _⟩ := cellsS X.out; clear hb hc3 hC3)
    | (go_at_call 20; (with_reducible refine (drop_any x.draw l A c _ (Kd.C_below HR.out HB.out) HL.out).mono ?_); rintro e w1 ⟨v, rfl, ho, hb⟩; have H1 := Aside0.mk (Kd.C_below H1.out hb); have H2 := Aside0.mk (Kd.C_below H2.out hb); have H3 := Aside0.mk (Kd.C_below H3.out hb); obtain ⟨A4, c4, rfl, hc4, hC4⟩ := ho; have HC4 := Aside0.mk hc4; have H4 := Aside0.mk hC4; have HB := Aside0.mk (below_step HB.out hb); have X := Aside0.mk (blk_below X.out hb); clear x0 x2 x4; obtain ⟨x0, _, x2, _, x4, _, _⟩ := cellsS X.out; clear hb hc4 hC4)
    | (go_at_call 13; (with_reducible refine (mayL_any l A c _ (Kd.C_below HR.out HB.out) HC.out).mono ?_); rintro e w1 ⟨he_, hb⟩; rw [HM.out] at he_; subst he_; have H1 := Aside0.mk (Kd.C_below H1.out hb); have H2 := Aside0.mk (Kd.C_below H2.out hb); have H3 := Aside0.mk (Kd.C_below H3.out hb); have H4 := Aside0.mk (Kd.C_below H4.out hb); have HB := Aside0.mk (below_step HB.out hb); have X := Aside0.mk (blk_below X.out hb); clear x0 x2 x4; obtain ⟨x0, _, x2, _, x4, _, _⟩ := cellsS X.out; clear hb)
    | (go_at_call 25; (with_reducible refine (same_any l l A1 A c1 c _ H1.out (Kd.C_below HR.out HB.out)).mono ?_); rintro e w1 ⟨he_, hb⟩; rw [decide_eq_true rfl] at he_; subst he_; have H1 := Aside0.mk (Kd.C_below H1.out hb); have H2 := Aside0.mk (Kd.C_below H2.out hb); have H3 := Aside0.mk (Kd.C_below H3.out hb); have H4 := Aside0.mk (Kd.C_below H4.out hb); have HB := Aside0.mk (below_step HB.out hb); have X := Aside0.mk (blk_below X.out hb); clear x0 x2 x4; obtain ⟨x0, _, x2, _, x4, _, _⟩ := cellsS X.out; clear hb)
    | (go_at_call 25; (with_reducible refine (same_any l l A2 A c2 c _ H2.out (Kd.C_below HR.out HB.out)).mono ?_); rintro e w1 ⟨he_, hb⟩; rw [decide_eq_true rfl] at he_; subst he_; have H1 := Aside0.mk (Kd.C_below H1.out hb); have H2 := Aside0.mk (Kd.C_below H2.out hb); have H3 := Aside0.mk (Kd.C_below H3.out hb); have H4 := Aside0.mk (Kd.C_below H4.out hb); have HB := Aside0.mk (below_step HB.out hb); have X := Aside0.mk (blk_below X.out hb); clear x0 x2 x4; obtain ⟨x0, _, x2, _, x4, _, _⟩ := cellsS X.out; clear hb)
    | (go_at_call 25; (with_reducible refine (same_any l l A3 A c3 c _ H3.out (Kd.C_below HR.out HB.out)).mono ?_); rintro e w1 ⟨he_, hb⟩; rw [decide_eq_true rfl] at he_; subst he_; have H1 := Aside0.mk (Kd.C_below H1.out hb); have H2 := Aside0.mk (Kd.C_below H2.out hb); have H3 := Aside0.mk (Kd.C_below H3.out hb); have H4 := Aside0.mk (Kd.C_below H4.out hb); have HB := Aside0.mk (below_step HB.out hb); have X := Aside0.mk (blk_below X.out hb); clear x0 x2 x4; obtain ⟨x0, _, x2, _, x4, _, _⟩ := cellsS X.out; clear hb))
  go_ret
  exact ⟨rfl, HB.out⟩
set_option maxHeartbeats 4000000 in
set_option maxRecDepth 100000 in
theorem stays_w (l : List Ses) (A : Option Addr) (c : Nat) (x : Ses) (count idle now : Int) (w : World) (hr : kS.C w A l.length l) (hc : l.length ≤ c) (hfew : decide (l.length ≤ 8) = true) (hm : mayS l = true) (hl : l.length < 1000000) (a p u : List Ses) (e1 e2 e3 : Int) (ha : beginS l x idle now = (a, e1)) (hp : proveS l x.draw idle now = (p, e2)) (hu : useS l x.draw count idle now = (u, e3)) (hE : e1 = 0 ∨ (e1 ≠ 0 ∧ a = l)) (hF : e2 = 0 ∨ (e2 ≠ 0 ∧ e2 ≠ 9 ∧ p = l) ∨ (e2 = 9 ∧ p = dropS l x.draw)) (hG : e3 = 0 ∨ (e3 ≠ 0 ∧ e3 ≠ 9 ∧ u = l) ∨ (e3 = 9 ∧ u = dropS l x.draw)) (hma : mayS a = true) (hmp : mayS p = true) (hmu : mayS u = true) (hmd : mayS (dropS l x.draw) = true) :
    Calls Try.prog 7 #[.slice A l.length c, .agg (sca x), .int .u64 count, .int .i64 idle, .int .i64 now] w fun e w' => e = .returned (.bool true) ∧ Below w.heap.size w w' := by
  have HR := Aside0.mk hr
  have HC := Aside0.mk hc
  clear hr hc
  have HFEW := Aside0.mk hfew
  clear hfew
  have HM := Aside0.mk hm
  have HL := Aside0.mk hl
  have HA := Aside0.mk ha
  have HP := Aside0.mk hp
  have HU := Aside0.mk hu
  have HE := Aside0.mk hE
  have HF := Aside0.mk hF
  have HG := Aside0.mk hG
  have HMA := Aside0.mk hma
  have HMP := Aside0.mk hmp
  have HMU := Aside0.mk hmu
  have HMD := Aside0.mk hmd
  clear hm hl ha hp hu hE hF hG hma hmp hmu hmd
  go_enter Try.func7, Try.ntmps7
  go_upto_region 12 with (first
    | (go_at_call 9; (with_reducible refine (awake_any _).mono ?_); rintro e w1 ⟨rfl, hb⟩; have X := Aside0.mk (blk_below (blk_new w (.cells (sca x) 35)) hb); have HB := Aside0.mk (below_step (below_box w x) hb); obtain ⟨x0, _, x2, _, x4, _, _⟩ := cellsS X.out; clear hb)
    | (go_at_call 10; (with_reducible refine (few_any l A c _).mono ?_); rintro e w1 ⟨he_, rfl⟩; rw [HFEW.out] at he_; subst he_)
    | (with_reducible refine load_S (.tmp 6) rfl rfl (p := ⟨w.heap.size, 0, none⟩) rfl (cells_box X.out) ?_)
    | (go_at_call 15; (with_reducible refine (begin_any x idle now l A c _ (Kd.C_below HR.out HB.out) HC.out HL.out a e1 HA.out).mono ?_); rintro e w1 ⟨v, rfl, ho, hb⟩; obtain ⟨A1, c1, rfl, hc1, hC1⟩ := ho; have HC1 := Aside0.mk hc1; have H1 := Aside0.mk hC1; have HB := Aside0.mk (below_step HB.out hb); have X := Aside0.mk (blk_below X.out hb); clear x0 x2 x4; obtain ⟨x0, _, x2, _, x4, _, _⟩ := cellsS X.out; clear hb hc1 hC1)
    | (go_at_call 17; (with_reducible refine (prove_any x.draw idle now l A c _ (Kd.C_below HR.out HB.out) HC.out HL.out p e2 HP.out).mono ?_); rintro e w1 ⟨v, rfl, ho, hb⟩; have H1 := Aside0.mk (Kd.C_below H1.out hb); obtain ⟨A2, c2, rfl, hc2, hC2⟩ := ho; have HC2 := Aside0.mk hc2; have H2 := Aside0.mk hC2; have HB := Aside0.mk (below_step HB.out hb); have X := Aside0.mk (blk_below X.out hb); clear x0 x2 x4; obtain ⟨x0, _, x2, _, x4, _, _⟩ := cellsS X.out; clear hb hc2 hC2)
    | (go_at_call 11; (with_reducible refine (use_any x.draw count idle now l A c _ (Kd.C_below HR.out HB.out) HC.out HL.out u e3 HU.out).mono ?_); rintro e w1 ⟨v, rfl, ho, hb⟩; have H1 := Aside0.mk (Kd.C_below H1.out hb); have H2 := Aside0.mk (Kd.C_below H2.out hb); obtain ⟨A3, c3, rfl, hc3, hC3⟩ := ho; have HC3 := Aside0.mk hc3; have H3 := Aside0.mk hC3; have HB := Aside0.mk (below_step HB.out hb); have X := Aside0.mk (blk_below X.out hb); clear x0 x2 x4; obtain ⟨x0, _, x2, _, x4, _, _⟩ := cellsS X.out; clear hb hc3 hC3)
    | (go_at_call 20; (with_reducible refine (drop_any x.draw l A c _ (Kd.C_below HR.out HB.out) HL.out).mono ?_); rintro e w1 ⟨v, rfl, ho, hb⟩; have H1 := Aside0.mk (Kd.C_below H1.out hb); have H2 := Aside0.mk (Kd.C_below H2.out hb); have H3 := Aside0.mk (Kd.C_below H3.out hb); obtain ⟨A4, c4, rfl, hc4, hC4⟩ := ho; have HC4 := Aside0.mk hc4; have H4 := Aside0.mk hC4; have HB := Aside0.mk (below_step HB.out hb); have X := Aside0.mk (blk_below X.out hb); clear x0 x2 x4; obtain ⟨x0, _, x2, _, x4, _, _⟩ := cellsS X.out; clear hb hc4 hC4)
    | (go_at_call 13; (with_reducible refine (mayL_any l A c _ (Kd.C_below HR.out HB.out) HC.out).mono ?_); rintro e w1 ⟨he_, hb⟩; rw [HM.out] at he_; subst he_; have H1 := Aside0.mk (Kd.C_below H1.out hb); have H2 := Aside0.mk (Kd.C_below H2.out hb); have H3 := Aside0.mk (Kd.C_below H3.out hb); have H4 := Aside0.mk (Kd.C_below H4.out hb); have HB := Aside0.mk (below_step HB.out hb); have X := Aside0.mk (blk_below X.out hb); clear x0 x2 x4; obtain ⟨x0, _, x2, _, x4, _, _⟩ := cellsS X.out; clear hb))
  go_cut [150] (fun v wc => v = .bool false ∧ Aside0 (wc.heap[w.heap.size]? = some (.cells (sca x) 35 (0, 0))) ∧ Aside0 (Below w.heap.size w wc) ∧ Aside0 (kS.C wc A1 (a).length (a)) ∧ Aside0 ((a).length ≤ c1) ∧ Aside0 (kS.C wc A2 (p).length (p)) ∧ Aside0 ((p).length ≤ c2) ∧ Aside0 (kS.C wc A3 (u).length (u)) ∧ Aside0 ((u).length ≤ c3) ∧ Aside0 (kS.C wc A4 (dropS l x.draw).length (dropS l x.draw)) ∧ Aside0 ((dropS l x.draw).length ≤ c4))
  case first =>
    rcases HE.out with h1 | h1 <;> rcases HF.out with h2 | h2 | h2 <;> rcases HG.out with h3 | h3 | h3
    · as_aux_lemma =>
      have b1 : (e1 != 0) = false := by simpa using h1
      have b2 : (e2 != 0) = false := by simpa using h2
      have c2_ : (e2 == 9) = false := by rw [h2]; rfl
      have b3 : (e3 != 0) = false := by simpa using h3
      have c3_ : (e3 == 9) = false := by rw [h3]; rfl
      clear h1 h2 h3
      go_wp2
      go_meet
      case rel => exact ⟨rfl, X, HB, H1, HC1, H2, HC2, H3, HC3, H4, HC4⟩
    · as_aux_lemma =>
      have b1 : (e1 != 0) = false := by simpa using h1
      have b2 : (e2 != 0) = false := by simpa using h2
      have c2_ : (e2 == 9) = false := by rw [h2]; rfl
      have b3 : (e3 != 0) = true := by simpa using h3.1
      have c3_ : (e3 == 9) = false := by simpa using h3.2.1
      have d3_ : (e3 != 9) = true := by simpa using h3.2.1
      have HSU := Aside0.mk (show decide (u = l) = true from decide_eq_true h3.2.2)
      clear h1 h2 h3
      go_wp2_with (first
        | (go_at_call 25; (with_reducible refine (same_any u l A3 A c3 c _ H3.out (Kd.C_below HR.out HB.out)).mono ?_); rintro e w1 ⟨he_, hb⟩; rw [HSU.out] at he_; subst he_; have H1 := Aside0.mk (Kd.C_below H1.out hb); have H2 := Aside0.mk (Kd.C_below H2.out hb); have H3 := Aside0.mk (Kd.C_below H3.out hb); have H4 := Aside0.mk (Kd.C_below H4.out hb); have HB := Aside0.mk (below_step HB.out hb); have X := Aside0.mk (blk_below X.out hb); clear x0 x2 x4; obtain ⟨x0, _, x2, _, x4, _, _⟩ := cellsS X.out; clear hb))
      go_meet
      case rel => exact ⟨rfl, X, HB, H1, HC1, H2, HC2, H3, HC3, H4, HC4⟩
    · as_aux_lemma =>
      have b1 : (e1 != 0) = false := by simpa using h1
      have b2 : (e2 != 0) = false := by simpa using h2
      have c2_ : (e2 == 9) = false := by rw [h2]; rfl
      have b3 : (e3 != 0) = true := by rw [h3.1]; rfl
      have c3_ : (e3 == 9) = true := by rw [h3.1]; rfl
      have d3_ : (e3 != 9) = false := by rw [h3.1]; rfl
      have HSU := Aside0.mk (show decide (u = dropS l x.draw) = true from decide_eq_true h3.2)
      clear h1 h2 h3
      go_wp2_with (first
        | (go_at_call 25; (with_reducible refine (same_any u (dropS l x.draw) A3 A4 c3 c4 _ H3.out H4.out).mono ?_); rintro e w1 ⟨he_, hb⟩; rw [HSU.out] at he_; subst he_; have H1 := Aside0.mk (Kd.C_below H1.out hb); have H2 := Aside0.mk (Kd.C_below H2.out hb); have H3 := Aside0.mk (Kd.C_below H3.out hb); have H4 := Aside0.mk (Kd.C_below H4.out hb); have HB := Aside0.mk (below_step HB.out hb); have X := Aside0.mk (blk_below X.out hb); clear x0 x2 x4; obtain ⟨x0, _, x2, _, x4, _, _⟩ := cellsS X.out; clear hb))
      go_meet
      case rel => exact ⟨rfl, X, HB, H1, HC1, H2, HC2, H3, HC3, H4, HC4⟩
    · as_aux_lemma =>
      have b1 : (e1 != 0) = false := by simpa using h1
      have b2 : (e2 != 0) = true := by simpa using h2.1
      have c2_ : (e2 == 9) = false := by simpa using h2.2.1
      have d2_ : (e2 != 9) = true := by simpa using h2.2.1
      have HSP := Aside0.mk (show decide (p = l) = true from decide_eq_true h2.2.2)
      have b3 : (e3 != 0) = false := by simpa using h3
      have c3_ : (e3 == 9) = false := by rw [h3]; rfl
      clear h1 h2 h3
      go_wp2_with (first
        | (go_at_call 25; (with_reducible refine (same_any p l A2 A c2 c _ H2.out (Kd.C_below HR.out HB.out)).mono ?_); rintro e w1 ⟨he_, hb⟩; rw [HSP.out] at he_; subst he_; have H1 := Aside0.mk (Kd.C_below H1.out hb); have H2 := Aside0.mk (Kd.C_below H2.out hb); have H3 := Aside0.mk (Kd.C_below H3.out hb); have H4 := Aside0.mk (Kd.C_below H4.out hb); have HB := Aside0.mk (below_step HB.out hb); have X := Aside0.mk (blk_below X.out hb); clear x0 x2 x4; obtain ⟨x0, _, x2, _, x4, _, _⟩ := cellsS X.out; clear hb))
      go_meet
      case rel => exact ⟨rfl, X, HB, H1, HC1, H2, HC2, H3, HC3, H4, HC4⟩
    · as_aux_lemma =>
      have b1 : (e1 != 0) = false := by simpa using h1
      have b2 : (e2 != 0) = true := by simpa using h2.1
      have c2_ : (e2 == 9) = false := by simpa using h2.2.1
      have d2_ : (e2 != 9) = true := by simpa using h2.2.1
      have HSP := Aside0.mk (show decide (p = l) = true from decide_eq_true h2.2.2)
      have b3 : (e3 != 0) = true := by simpa using h3.1
      have c3_ : (e3 == 9) = false := by simpa using h3.2.1
      have d3_ : (e3 != 9) = true := by simpa using h3.2.1
      have HSU := Aside0.mk (show decide (u = l) = true from decide_eq_true h3.2.2)
      clear h1 h2 h3
      go_wp2_with (first
        | (go_at_call 25; (with_reducible refine (same_any p l A2 A c2 c _ H2.out (Kd.C_below HR.out HB.out)).mono ?_); rintro e w1 ⟨he_, hb⟩; rw [HSP.out] at he_; subst he_; have H1 := Aside0.mk (Kd.C_below H1.out hb); have H2 := Aside0.mk (Kd.C_below H2.out hb); have H3 := Aside0.mk (Kd.C_below H3.out hb); have H4 := Aside0.mk (Kd.C_below H4.out hb); have HB := Aside0.mk (below_step HB.out hb); have X := Aside0.mk (blk_below X.out hb); clear x0 x2 x4; obtain ⟨x0, _, x2, _, x4, _, _⟩ := cellsS X.out; clear hb)
        | (go_at_call 25; (with_reducible refine (same_any u l A3 A c3 c _ H3.out (Kd.C_below HR.out HB.out)).mono ?_); rintro e w1 ⟨he_, hb⟩; rw [HSU.out] at he_; subst he_; have H1 := Aside0.mk (Kd.C_below H1.out hb); have H2 := Aside0.mk (Kd.C_below H2.out hb); have H3 := Aside0.mk (Kd.C_below H3.out hb); have H4 := Aside0.mk (Kd.C_below H4.out hb); have HB := Aside0.mk (below_step HB.out hb); have X := Aside0.mk (blk_below X.out hb); clear x0 x2 x4; obtain ⟨x0, _, x2, _, x4, _, _⟩ := cellsS X.out; clear hb))
      go_meet
      case rel => exact ⟨rfl, X, HB, H1, HC1, H2, HC2, H3, HC3, H4, HC4⟩
    · as_aux_lemma =>
      have b1 : (e1 != 0) = false := by simpa using h1
      have b2 : (e2 != 0) = true := by simpa using h2.1
      have c2_ : (e2 == 9) = false := by simpa using h2.2.1
      have d2_ : (e2 != 9) = true := by simpa using h2.2.1
      have HSP := Aside0.mk (show decide (p = l) = true from decide_eq_true h2.2.2)
      have b3 : (e3 != 0) = true := by rw [h3.1]; rfl
      have c3_ : (e3 == 9) = true := by rw [h3.1]; rfl
      have d3_ : (e3 != 9) = false := by rw [h3.1]; rfl
      have HSU := Aside0.mk (show decide (u = dropS l x.draw) = true from decide_eq_true h3.2)
      clear h1 h2 h3
      go_wp2_with (first
        | (go_at_call 25; (with_reducible refine (same_any p l A2 A c2 c _ H2.out (Kd.C_below HR.out HB.out)).mono ?_); rintro e w1 ⟨he_, hb⟩; rw [HSP.out] at he_; subst he_; have H1 := Aside0.mk (Kd.C_below H1.out hb); have H2 := Aside0.mk (Kd.C_below H2.out hb); have H3 := Aside0.mk (Kd.C_below H3.out hb); have H4 := Aside0.mk (Kd.C_below H4.out hb); have HB := Aside0.mk (below_step HB.out hb); have X := Aside0.mk (blk_below X.out hb); clear x0 x2 x4; obtain ⟨x0, _, x2, _, x4, _, _⟩ := cellsS X.out; clear hb)
        | (go_at_call 25; (with_reducible refine (same_any u (dropS l x.draw) A3 A4 c3 c4 _ H3.out H4.out).mono ?_); rintro e w1 ⟨he_, hb⟩; rw [HSU.out] at he_; subst he_; have H1 := Aside0.mk (Kd.C_below H1.out hb); have H2 := Aside0.mk (Kd.C_below H2.out hb); have H3 := Aside0.mk (Kd.C_below H3.out hb); have H4 := Aside0.mk (Kd.C_below H4.out hb); have HB := Aside0.mk (below_step HB.out hb); have X := Aside0.mk (blk_below X.out hb); clear x0 x2 x4; obtain ⟨x0, _, x2, _, x4, _, _⟩ := cellsS X.out; clear hb))
      go_meet
      case rel => exact ⟨rfl, X, HB, H1, HC1, H2, HC2, H3, HC3, H4, HC4⟩
    · as_aux_lemma =>
      have b1 : (e1 != 0) = false := by simpa using h1
      have b2 : (e2 != 0) = true := by rw [h2.1]; rfl
      have c2_ : (e2 == 9) = true := by rw [h2.1]; rfl
      have d2_ : (e2 != 9) = false := by rw [h2.1]; rfl
      have HSP := Aside0.mk (show decide (p = dropS l x.draw) = true from decide_eq_true h2.2)
      have b3 : (e3 != 0) = false := by simpa using h3
      have c3_ : (e3 == 9) = false := by rw [h3]; rfl
      clear h1 h2 h3
      go_wp2_with (first
        | (go_at_call 25; (with_reducible refine (same_any p (dropS l x.draw) A2 A4 c2 c4 _ H2.out H4.out).mono ?_); rintro e w1 ⟨he_, hb⟩; rw [HSP.out] at he_; subst he_; have H1 := Aside0.mk (Kd.C_below H1.out hb); have H2 := Aside0.mk (Kd.C_below H2.out hb); have H3 := Aside0.mk (Kd.C_below H3.out hb); have H4 := Aside0.mk (Kd.C_below H4.out hb); have HB := Aside0.mk (below_step HB.out hb); have X := Aside0.mk (blk_below X.out hb); clear x0 x2 x4; obtain ⟨x0, _, x2, _, x4, _, _⟩ := cellsS X.out; clear hb))
      go_meet
      case rel => exact ⟨rfl, X, HB, H1, HC1, H2, HC2, H3, HC3, H4, HC4⟩
    · as_aux_lemma =>
      have b1 : (e1 != 0) = false := by simpa using h1
      have b2 : (e2 != 0) = true := by rw [h2.1]; rfl
      have c2_ : (e2 == 9) = true := by rw [h2.1]; rfl
      have d2_ : (e2 != 9) = false := by rw [h2.1]; rfl
      have HSP := Aside0.mk (show decide (p = dropS l x.draw) = true from decide_eq_true h2.2)
      have b3 : (e3 != 0) = true := by simpa using h3.1
      have c3_ : (e3 == 9) = false := by simpa using h3.2.1
      have d3_ : (e3 != 9) = true := by simpa using h3.2.1
      have HSU := Aside0.mk (show decide (u = l) = true from decide_eq_true h3.2.2)
      clear h1 h2 h3
      go_wp2_with (first
        | (go_at_call 25; (with_reducible refine (same_any p (dropS l x.draw) A2 A4 c2 c4 _ H2.out H4.out).mono ?_); rintro e w1 ⟨he_, hb⟩; rw [HSP.out] at he_; subst he_; have H1 := Aside0.mk (Kd.C_below H1.out hb); have H2 := Aside0.mk (Kd.C_below H2.out hb); have H3 := Aside0.mk (Kd.C_below H3.out hb); have H4 := Aside0.mk (Kd.C_below H4.out hb); have HB := Aside0.mk (below_step HB.out hb); have X := Aside0.mk (blk_below X.out hb); clear x0 x2 x4; obtain ⟨x0, _, x2, _, x4, _, _⟩ := cellsS X.out; clear hb)
        | (go_at_call 25; (with_reducible refine (same_any u l A3 A c3 c _ H3.out (Kd.C_below HR.out HB.out)).mono ?_); rintro e w1 ⟨he_, hb⟩; rw [HSU.out] at he_; subst he_; have H1 := Aside0.mk (Kd.C_below H1.out hb); have H2 := Aside0.mk (Kd.C_below H2.out hb); have H3 := Aside0.mk (Kd.C_below H3.out hb); have H4 := Aside0.mk (Kd.C_below H4.out hb); have HB := Aside0.mk (below_step HB.out hb); have X := Aside0.mk (blk_below X.out hb); clear x0 x2 x4; obtain ⟨x0, _, x2, _, x4, _, _⟩ := cellsS X.out; clear hb))
      go_meet
      case rel => exact ⟨rfl, X, HB, H1, HC1, H2, HC2, H3, HC3, H4, HC4⟩
    · as_aux_lemma =>
      have b1 : (e1 != 0) = false := by simpa using h1
      have b2 : (e2 != 0) = true := by rw [h2.1]; rfl
      have c2_ : (e2 == 9) = true := by rw [h2.1]; rfl
      have d2_ : (e2 != 9) = false := by rw [h2.1]; rfl
      have HSP := Aside0.mk (show decide (p = dropS l x.draw) = true from decide_eq_true h2.2)
      have b3 : (e3 != 0) = true := by rw [h3.1]; rfl
      have c3_ : (e3 == 9) = true := by rw [h3.1]; rfl
      have d3_ : (e3 != 9) = false := by rw [h3.1]; rfl
      have HSU := Aside0.mk (show decide (u = dropS l x.draw) = true from decide_eq_true h3.2)
      clear h1 h2 h3
      go_wp2_with (first
        | (go_at_call 25; (with_reducible refine (same_any p (dropS l x.draw) A2 A4 c2 c4 _ H2.out H4.out).mono ?_); rintro e w1 ⟨he_, hb⟩; rw [HSP.out] at he_; subst he_; have H1 := Aside0.mk (Kd.C_below H1.out hb); have H2 := Aside0.mk (Kd.C_below H2.out hb); have H3 := Aside0.mk (Kd.C_below H3.out hb); have H4 := Aside0.mk (Kd.C_below H4.out hb); have HB := Aside0.mk (below_step HB.out hb); have X := Aside0.mk (blk_below X.out hb); clear x0 x2 x4; obtain ⟨x0, _, x2, _, x4, _, _⟩ := cellsS X.out; clear hb)
        | (go_at_call 25; (with_reducible refine (same_any u (dropS l x.draw) A3 A4 c3 c4 _ H3.out H4.out).mono ?_); rintro e w1 ⟨he_, hb⟩; rw [HSU.out] at he_; subst he_; have H1 := Aside0.mk (Kd.C_below H1.out hb); have H2 := Aside0.mk (Kd.C_below H2.out hb); have H3 := Aside0.mk (Kd.C_below H3.out hb); have H4 := Aside0.mk (Kd.C_below H4.out hb); have HB := Aside0.mk (below_step HB.out hb); have X := Aside0.mk (blk_below X.out hb); clear x0 x2 x4; obtain ⟨x0, _, x2, _, x4, _, _⟩ := cellsS X.out; clear hb))
      go_meet
      case rel => exact ⟨rfl, X, HB, H1, HC1, H2, HC2, H3, HC3, H4, HC4⟩
    · as_aux_lemma =>
      have b1 : (e1 != 0) = true := by simpa using h1.1
      have HSA := Aside0.mk (show decide (a = l) = true from decide_eq_true h1.2)
      have b2 : (e2 != 0) = false := by simpa using h2
      have c2_ : (e2 == 9) = false := by rw [h2]; rfl
      have b3 : (e3 != 0) = false := by simpa using h3
      have c3_ : (e3 == 9) = false := by rw [h3]; rfl
      clear h1 h2 h3
      go_wp2_with (first
        | (go_at_call 25; (with_reducible refine (same_any a l A1 A c1 c _ H1.out (Kd.C_below HR.out HB.out)).mono ?_); rintro e w1 ⟨he_, hb⟩; rw [HSA.out] at he_; subst he_; have H1 := Aside0.mk (Kd.C_below H1.out hb); have H2 := Aside0.mk (Kd.C_below H2.out hb); have H3 := Aside0.mk (Kd.C_below H3.out hb); have H4 := Aside0.mk (Kd.C_below H4.out hb); have HB := Aside0.mk (below_step HB.out hb); have X := Aside0.mk (blk_below X.out hb); clear x0 x2 x4; obtain ⟨x0, _, x2, _, x4, _, _⟩ := cellsS X.out; clear hb))
      go_meet
      case rel => exact ⟨rfl, X, HB, H1, HC1, H2, HC2, H3, HC3, H4, HC4⟩
    · as_aux_lemma =>
      have b1 : (e1 != 0) = true := by simpa using h1.1
      have HSA := Aside0.mk (show decide (a = l) = true from decide_eq_true h1.2)
      have b2 : (e2 != 0) = false := by simpa using h2
      have c2_ : (e2 == 9) = false := by rw [h2]; rfl
      have b3 : (e3 != 0) = true := by simpa using h3.1
      have c3_ : (e3 == 9) = false := by simpa using h3.2.1
      have d3_ : (e3 != 9) = true := by simpa using h3.2.1
      have HSU := Aside0.mk (show decide (u = l) = true from decide_eq_true h3.2.2)
      clear h1 h2 h3
      go_wp2_with (first
        | (go_at_call 25; (with_reducible refine (same_any a l A1 A c1 c _ H1.out (Kd.C_below HR.out HB.out)).mono ?_); rintro e w1 ⟨he_, hb⟩; rw [HSA.out] at he_; subst he_; have H1 := Aside0.mk (Kd.C_below H1.out hb); have H2 := Aside0.mk (Kd.C_below H2.out hb); have H3 := Aside0.mk (Kd.C_below H3.out hb); have H4 := Aside0.mk (Kd.C_below H4.out hb); have HB := Aside0.mk (below_step HB.out hb); have X := Aside0.mk (blk_below X.out hb); clear x0 x2 x4; obtain ⟨x0, _, x2, _, x4, _, _⟩ := cellsS X.out; clear hb)
        | (go_at_call 25; (with_reducible refine (same_any u l A3 A c3 c _ H3.out (Kd.C_below HR.out HB.out)).mono ?_); rintro e w1 ⟨he_, hb⟩; rw [HSU.out] at he_; subst he_; have H1 := Aside0.mk (Kd.C_below H1.out hb); have H2 := Aside0.mk (Kd.C_below H2.out hb); have H3 := Aside0.mk (Kd.C_below H3.out hb); have H4 := Aside0.mk (Kd.C_below H4.out hb); have HB := Aside0.mk (below_step HB.out hb); have X := Aside0.mk (blk_below X.out hb); clear x0 x2 x4; obtain ⟨x0, _, x2, _, x4, _, _⟩ := cellsS X.out; clear hb))
      go_meet
      case rel => exact ⟨rfl, X, HB, H1, HC1, H2, HC2, H3, HC3, H4, HC4⟩
    · as_aux_lemma =>
      have b1 : (e1 != 0) = true := by simpa using h1.1
      have HSA := Aside0.mk (show decide (a = l) = true from decide_eq_true h1.2)
      have b2 : (e2 != 0) = false := by simpa using h2
      have c2_ : (e2 == 9) = false := by rw [h2]; rfl
      have b3 : (e3 != 0) = true := by rw [h3.1]; rfl
      have c3_ : (e3 == 9) = true := by rw [h3.1]; rfl
      have d3_ : (e3 != 9) = false := by rw [h3.1]; rfl
      have HSU := Aside0.mk (show decide (u = dropS l x.draw) = true from decide_eq_true h3.2)
      clear h1 h2 h3
      go_wp2_with (first
        | (go_at_call 25; (with_reducible refine (same_any a l A1 A c1 c _ H1.out (Kd.C_below HR.out HB.out)).mono ?_); rintro e w1 ⟨he_, hb⟩; rw [HSA.out] at he_; subst he_; have H1 := Aside0.mk (Kd.C_below H1.out hb); have H2 := Aside0.mk (Kd.C_below H2.out hb); have H3 := Aside0.mk (Kd.C_below H3.out hb); have H4 := Aside0.mk (Kd.C_below H4.out hb); have HB := Aside0.mk (below_step HB.out hb); have X := Aside0.mk (blk_below X.out hb); clear x0 x2 x4; obtain ⟨x0, _, x2, _, x4, _, _⟩ := cellsS X.out; clear hb)
        | (go_at_call 25; (with_reducible refine (same_any u (dropS l x.draw) A3 A4 c3 c4 _ H3.out H4.out).mono ?_); rintro e w1 ⟨he_, hb⟩; rw [HSU.out] at he_; subst he_; have H1 := Aside0.mk (Kd.C_below H1.out hb); have H2 := Aside0.mk (Kd.C_below H2.out hb); have H3 := Aside0.mk (Kd.C_below H3.out hb); have H4 := Aside0.mk (Kd.C_below H4.out hb); have HB := Aside0.mk (below_step HB.out hb); have X := Aside0.mk (blk_below X.out hb); clear x0 x2 x4; obtain ⟨x0, _, x2, _, x4, _, _⟩ := cellsS X.out; clear hb))
      go_meet
      case rel => exact ⟨rfl, X, HB, H1, HC1, H2, HC2, H3, HC3, H4, HC4⟩
    · as_aux_lemma =>
      have b1 : (e1 != 0) = true := by simpa using h1.1
      have HSA := Aside0.mk (show decide (a = l) = true from decide_eq_true h1.2)
      have b2 : (e2 != 0) = true := by simpa using h2.1
      have c2_ : (e2 == 9) = false := by simpa using h2.2.1
      have d2_ : (e2 != 9) = true := by simpa using h2.2.1
      have HSP := Aside0.mk (show decide (p = l) = true from decide_eq_true h2.2.2)
      have b3 : (e3 != 0) = false := by simpa using h3
      have c3_ : (e3 == 9) = false := by rw [h3]; rfl
      clear h1 h2 h3
      go_wp2_with (first
        | (go_at_call 25; (with_reducible refine (same_any a l A1 A c1 c _ H1.out (Kd.C_below HR.out HB.out)).mono ?_); rintro e w1 ⟨he_, hb⟩; rw [HSA.out] at he_; subst he_; have H1 := Aside0.mk (Kd.C_below H1.out hb); have H2 := Aside0.mk (Kd.C_below H2.out hb); have H3 := Aside0.mk (Kd.C_below H3.out hb); have H4 := Aside0.mk (Kd.C_below H4.out hb); have HB := Aside0.mk (below_step HB.out hb); have X := Aside0.mk (blk_below X.out hb); clear x0 x2 x4; obtain ⟨x0, _, x2, _, x4, _, _⟩ := cellsS X.out; clear hb)
        | (go_at_call 25; (with_reducible refine (same_any p l A2 A c2 c _ H2.out (Kd.C_below HR.out HB.out)).mono ?_); rintro e w1 ⟨he_, hb⟩; rw [HSP.out] at he_; subst he_; have H1 := Aside0.mk (Kd.C_below H1.out hb); have H2 := Aside0.mk (Kd.C_below H2.out hb); have H3 := Aside0.mk (Kd.C_below H3.out hb); have H4 := Aside0.mk (Kd.C_below H4.out hb); have HB := Aside0.mk (below_step HB.out hb); have X := Aside0.mk (blk_below X.out hb); clear x0 x2 x4; obtain ⟨x0, _, x2, _, x4, _, _⟩ := cellsS X.out; clear hb))
      go_meet
      case rel => exact ⟨rfl, X, HB, H1, HC1, H2, HC2, H3, HC3, H4, HC4⟩
    · as_aux_lemma =>
      have b1 : (e1 != 0) = true := by simpa using h1.1
      have HSA := Aside0.mk (show decide (a = l) = true from decide_eq_true h1.2)
      have b2 : (e2 != 0) = true := by simpa using h2.1
      have c2_ : (e2 == 9) = false := by simpa using h2.2.1
      have d2_ : (e2 != 9) = true := by simpa using h2.2.1
      have HSP := Aside0.mk (show decide (p = l) = true from decide_eq_true h2.2.2)
      have b3 : (e3 != 0) = true := by simpa using h3.1
      have c3_ : (e3 == 9) = false := by simpa using h3.2.1
      have d3_ : (e3 != 9) = true := by simpa using h3.2.1
      have HSU := Aside0.mk (show decide (u = l) = true from decide_eq_true h3.2.2)
      clear h1 h2 h3
      go_wp2_with (first
        | (go_at_call 25; (with_reducible refine (same_any a l A1 A c1 c _ H1.out (Kd.C_below HR.out HB.out)).mono ?_); rintro e w1 ⟨he_, hb⟩; rw [HSA.out] at he_; subst he_; have H1 := Aside0.mk (Kd.C_below H1.out hb); have H2 := Aside0.mk (Kd.C_below H2.out hb); have H3 := Aside0.mk (Kd.C_below H3.out hb); have H4 := Aside0.mk (Kd.C_below H4.out hb); have HB := Aside0.mk (below_step HB.out hb); have X := Aside0.mk (blk_below X.out hb); clear x0 x2 x4; obtain ⟨x0, _, x2, _, x4, _, _⟩ := cellsS X.out; clear hb)
        | (go_at_call 25; (with_reducible refine (same_any p l A2 A c2 c _ H2.out (Kd.C_below HR.out HB.out)).mono ?_); rintro e w1 ⟨he_, hb⟩; rw [HSP.out] at he_; subst he_; have H1 := Aside0.mk (Kd.C_below H1.out hb); have H2 := Aside0.mk (Kd.C_below H2.out hb); have H3 := Aside0.mk (Kd.C_below H3.out hb); have H4 := Aside0.mk (Kd.C_below H4.out hb); have HB := Aside0.mk (below_step HB.out hb); have X := Aside0.mk (blk_below X.out hb); clear x0 x2 x4; obtain ⟨x0, _, x2, _, x4, _, _⟩ := cellsS X.out; clear hb)
        | (go_at_call 25; (with_reducible refine (same_any u l A3 A c3 c _ H3.out (Kd.C_below HR.out HB.out)).mono ?_); rintro e w1 ⟨he_, hb⟩; rw [HSU.out] at he_; subst he_; have H1 := Aside0.mk (Kd.C_below H1.out hb); have H2 := Aside0.mk (Kd.C_below H2.out hb); have H3 := Aside0.mk (Kd.C_below H3.out hb); have H4 := Aside0.mk (Kd.C_below H4.out hb); have HB := Aside0.mk (below_step HB.out hb); have X := Aside0.mk (blk_below X.out hb); clear x0 x2 x4; obtain ⟨x0, _, x2, _, x4, _, _⟩ := cellsS X.out; clear hb))
      go_meet
      case rel => exact ⟨rfl, X, HB, H1, HC1, H2, HC2, H3, HC3, H4, HC4⟩
    · as_aux_lemma =>
      have b1 : (e1 != 0) = true := by simpa using h1.1
      have HSA := Aside0.mk (show decide (a = l) = true from decide_eq_true h1.2)
      have b2 : (e2 != 0) = true := by simpa using h2.1
      have c2_ : (e2 == 9) = false := by simpa using h2.2.1
      have d2_ : (e2 != 9) = true := by simpa using h2.2.1
      have HSP := Aside0.mk (show decide (p = l) = true from decide_eq_true h2.2.2)
      have b3 : (e3 != 0) = true := by rw [h3.1]; rfl
      have c3_ : (e3 == 9) = true := by rw [h3.1]; rfl
      have d3_ : (e3 != 9) = false := by rw [h3.1]; rfl
      have HSU := Aside0.mk (show decide (u = dropS l x.draw) = true from decide_eq_true h3.2)
      clear h1 h2 h3
      go_wp2_with (first
        | (go_at_call 25; (with_reducible refine (same_any a l A1 A c1 c _ H1.out (Kd.C_below HR.out HB.out)).mono ?_); rintro e w1 ⟨he_, hb⟩; rw [HSA.out] at he_; subst he_; have H1 := Aside0.mk (Kd.C_below H1.out hb); have H2 := Aside0.mk (Kd.C_below H2.out hb); have H3 := Aside0.mk (Kd.C_below H3.out hb); have H4 := Aside0.mk (Kd.C_below H4.out hb); have HB := Aside0.mk (below_step HB.out hb); have X := Aside0.mk (blk_below X.out hb); clear x0 x2 x4; obtain ⟨x0, _, x2, _, x4, _, _⟩ := cellsS X.out; clear hb)
        | (go_at_call 25; (with_reducible refine (same_any p l A2 A c2 c _ H2.out (Kd.C_below HR.out HB.out)).mono ?_); rintro e w1 ⟨he_, hb⟩; rw [HSP.out] at he_; subst he_; have H1 := Aside0.mk (Kd.C_below H1.out hb); have H2 := Aside0.mk (Kd.C_below H2.out hb); have H3 := Aside0.mk (Kd.C_below H3.out hb); have H4 := Aside0.mk (Kd.C_below H4.out hb); have HB := Aside0.mk (below_step HB.out hb); have X := Aside0.mk (blk_below X.out hb); clear x0 x2 x4; obtain ⟨x0, _, x2, _, x4, _, _⟩ := cellsS X.out; clear hb)
        | (go_at_call 25; (with_reducible refine (same_any u (dropS l x.draw) A3 A4 c3 c4 _ H3.out H4.out).mono ?_); rintro e w1 ⟨he_, hb⟩; rw [HSU.out] at he_; subst he_; have H1 := Aside0.mk (Kd.C_below H1.out hb); have H2 := Aside0.mk (Kd.C_below H2.out hb); have H3 := Aside0.mk (Kd.C_below H3.out hb); have H4 := Aside0.mk (Kd.C_below H4.out hb); have HB := Aside0.mk (below_step HB.out hb); have X := Aside0.mk (blk_below X.out hb); clear x0 x2 x4; obtain ⟨x0, _, x2, _, x4, _, _⟩ := cellsS X.out; clear hb))
      go_meet
      case rel => exact ⟨rfl, X, HB, H1, HC1, H2, HC2, H3, HC3, H4, HC4⟩
    · as_aux_lemma =>
      have b1 : (e1 != 0) = true := by simpa using h1.1
      have HSA := Aside0.mk (show decide (a = l) = true from decide_eq_true h1.2)
      have b2 : (e2 != 0) = true := by rw [h2.1]; rfl
      have c2_ : (e2 == 9) = true := by rw [h2.1]; rfl
      have d2_ : (e2 != 9) = false := by rw [h2.1]; rfl
      have HSP := Aside0.mk (show decide (p = dropS l x.draw) = true from decide_eq_true h2.2)
      have b3 : (e3 != 0) = false := by simpa using h3
      have c3_ : (e3 == 9) = false := by rw [h3]; rfl
      clear h1 h2 h3
      go_wp2_with (first
        | (go_at_call 25; (with_reducible refine (same_any a l A1 A c1 c _ H1.out (Kd.C_below HR.out HB.out)).mono ?_); rintro e w1 ⟨he_, hb⟩; rw [HSA.out] at he_; subst he_; have H1 := Aside0.mk (Kd.C_below H1.out hb); have H2 := Aside0.mk (Kd.C_below H2.out hb); have H3 := Aside0.mk (Kd.C_below H3.out hb); have H4 := Aside0.mk (Kd.C_below H4.out hb); have HB := Aside0.mk (below_step HB.out hb); have X := Aside0.mk (blk_below X.out hb); clear x0 x2 x4; obtain ⟨x0, _, x2, _, x4, _, _⟩ := cellsS X.out; clear hb)
        | (go_at_call 25; (with_reducible refine (same_any p (dropS l x.draw) A2 A4 c2 c4 _ H2.out H4.out).mono ?_); rintro e w1 ⟨he_, hb⟩; rw [HSP.out] at he_; subst he_; have H1 := Aside0.mk (Kd.C_below H1.out hb); have H2 := Aside0.mk (Kd.C_below H2.out hb); have H3 := Aside0.mk (Kd.C_below H3.out hb); have H4 := Aside0.mk (Kd.C_below H4.out hb); have HB := Aside0.mk (below_step HB.out hb); have X := Aside0.mk (blk_below X.out hb); clear x0 x2 x4; obtain ⟨x0, _, x2, _, x4, _, _⟩ := cellsS X.out; clear hb))
      go_meet
      case rel => exact ⟨rfl, X, HB, H1, HC1, H2, HC2, H3, HC3, H4, HC4⟩
    · as_aux_lemma =>
      have b1 : (e1 != 0) = true := by simpa using h1.1
      have HSA := Aside0.mk (show decide (a = l) = true from decide_eq_true h1.2)
      have b2 : (e2 != 0) = true := by rw [h2.1]; rfl
      have c2_ : (e2 == 9) = true := by rw [h2.1]; rfl
      have d2_ : (e2 != 9) = false := by rw [h2.1]; rfl
      have HSP := Aside0.mk (show decide (p = dropS l x.draw) = true from decide_eq_true h2.2)
      have b3 : (e3 != 0) = true := by simpa using h3.1
      have c3_ : (e3 == 9) = false := by simpa using h3.2.1
      have d3_ : (e3 != 9) = true := by simpa using h3.2.1
      have HSU := Aside0.mk (show decide (u = l) = true from decide_eq_true h3.2.2)
      clear h1 h2 h3
      go_wp2_with (first
        | (go_at_call 25; (with_reducible refine (same_any a l A1 A c1 c _ H1.out (Kd.C_below HR.out HB.out)).mono ?_); rintro e w1 ⟨he_, hb⟩; rw [HSA.out] at he_; subst he_; have H1 := Aside0.mk (Kd.C_below H1.out hb); have H2 := Aside0.mk (Kd.C_below H2.out hb); have H3 := Aside0.mk (Kd.C_below H3.out hb); have H4 := Aside0.mk (Kd.C_below H4.out hb); have HB := Aside0.mk (below_step HB.out hb); have X := Aside0.mk (blk_below X.out hb); clear x0 x2 x4; obtain ⟨x0, _, x2, _, x4, _, _⟩ := cellsS X.out; clear hb)
        | (go_at_call 25; (with_reducible refine (same_any p (dropS l x.draw) A2 A4 c2 c4 _ H2.out H4.out).mono ?_); rintro e w1 ⟨he_, hb⟩; rw [HSP.out] at he_; subst he_; have H1 := Aside0.mk (Kd.C_below H1.out hb); have H2 := Aside0.mk (Kd.C_below H2.out hb); have H3 := Aside0.mk (Kd.C_below H3.out hb); have H4 := Aside0.mk (Kd.C_below H4.out hb); have HB := Aside0.mk (below_step HB.out hb); have X := Aside0.mk (blk_below X.out hb); clear x0 x2 x4; obtain ⟨x0, _, x2, _, x4, _, _⟩ := cellsS X.out; clear hb)
        | (go_at_call 25; (with_reducible refine (same_any u l A3 A c3 c _ H3.out (Kd.C_below HR.out HB.out)).mono ?_); rintro e w1 ⟨he_, hb⟩; rw [HSU.out] at he_; subst he_; have H1 := Aside0.mk (Kd.C_below H1.out hb); have H2 := Aside0.mk (Kd.C_below H2.out hb); have H3 := Aside0.mk (Kd.C_below H3.out hb); have H4 := Aside0.mk (Kd.C_below H4.out hb); have HB := Aside0.mk (below_step HB.out hb); have X := Aside0.mk (blk_below X.out hb); clear x0 x2 x4; obtain ⟨x0, _, x2, _, x4, _, _⟩ := cellsS X.out; clear hb))
      go_meet
      case rel => exact ⟨rfl, X, HB, H1, HC1, H2, HC2, H3, HC3, H4, HC4⟩
    · as_aux_lemma =>
      have b1 : (e1 != 0) = true := by simpa using h1.1
      have HSA := Aside0.mk (show decide (a = l) = true from decide_eq_true h1.2)
      have b2 : (e2 != 0) = true := by rw [h2.1]; rfl
      have c2_ : (e2 == 9) = true := by rw [h2.1]; rfl
      have d2_ : (e2 != 9) = false := by rw [h2.1]; rfl
      have HSP := Aside0.mk (show decide (p = dropS l x.draw) = true from decide_eq_true h2.2)
      have b3 : (e3 != 0) = true := by rw [h3.1]; rfl
      have c3_ : (e3 == 9) = true := by rw [h3.1]; rfl
      have d3_ : (e3 != 9) = false := by rw [h3.1]; rfl
      have HSU := Aside0.mk (show decide (u = dropS l x.draw) = true from decide_eq_true h3.2)
      clear h1 h2 h3
      go_wp2_with (first
        | (go_at_call 25; (with_reducible refine (same_any a l A1 A c1 c _ H1.out (Kd.C_below HR.out HB.out)).mono ?_); rintro e w1 ⟨he_, hb⟩; rw [HSA.out] at he_; subst he_; have H1 := Aside0.mk (Kd.C_below H1.out hb); have H2 := Aside0.mk (Kd.C_below H2.out hb); have H3 := Aside0.mk (Kd.C_below H3.out hb); have H4 := Aside0.mk (Kd.C_below H4.out hb); have HB := Aside0.mk (below_step HB.out hb); have X := Aside0.mk (blk_below X.out hb); clear x0 x2 x4; obtain ⟨x0, _, x2, _, x4, _, _⟩ := cellsS X.out; clear hb)
        | (go_at_call 25; (with_reducible refine (same_any p (dropS l x.draw) A2 A4 c2 c4 _ H2.out H4.out).mono ?_); rintro e w1 ⟨he_, hb⟩; rw [HSP.out] at he_; subst he_; have H1 := Aside0.mk (Kd.C_below H1.out hb); have H2 := Aside0.mk (Kd.C_below H2.out hb); have H3 := Aside0.mk (Kd.C_below H3.out hb); have H4 := Aside0.mk (Kd.C_below H4.out hb); have HB := Aside0.mk (below_step HB.out hb); have X := Aside0.mk (blk_below X.out hb); clear x0 x2 x4; obtain ⟨x0, _, x2, _, x4, _, _⟩ := cellsS X.out; clear hb)
        | (go_at_call 25; (with_reducible refine (same_any u (dropS l x.draw) A3 A4 c3 c4 _ H3.out H4.out).mono ?_); rintro e w1 ⟨he_, hb⟩; rw [HSU.out] at he_; subst he_; have H1 := Aside0.mk (Kd.C_below H1.out hb); have H2 := Aside0.mk (Kd.C_below H2.out hb); have H3 := Aside0.mk (Kd.C_below H3.out hb); have H4 := Aside0.mk (Kd.C_below H4.out hb); have HB := Aside0.mk (below_step HB.out hb); have X := Aside0.mk (blk_below X.out hb); clear x0 x2 x4; obtain ⟨x0, _, x2, _, x4, _, _⟩ := cellsS X.out; clear hb))
      go_meet
      case rel => exact ⟨rfl, X, HB, H1, HC1, H2, HC2, H3, HC3, H4, HC4⟩
  case rest =>
    clear X HB H1 HC1 H2 HC2 H3 HC3 H4 HC4 x0 x2 x4
    obtain ⟨rfl, X, HB, H1, HC1, H2, HC2, H3, HC3, H4, HC4⟩ := hcut
    obtain ⟨x0, _, x2, _, x4, _, _⟩ := cellsS X.out
    go_wp2_with (first
      | (go_at_call 13; (with_reducible refine (mayL_any a A1 c1 _ H1.out HC1.out).mono ?_); rintro e w1 ⟨he_, hb⟩; rw [HMA.out] at he_; subst he_; have H1 := Aside0.mk (Kd.C_below H1.out hb); have H2 := Aside0.mk (Kd.C_below H2.out hb); have H3 := Aside0.mk (Kd.C_below H3.out hb); have H4 := Aside0.mk (Kd.C_below H4.out hb); have HB := Aside0.mk (below_step HB.out hb); have X := Aside0.mk (blk_below X.out hb); clear x0 x2 x4; obtain ⟨x0, _, x2, _, x4, _, _⟩ := cellsS X.out; clear hb)
      | (go_at_call 13; (with_reducible refine (mayL_any p A2 c2 _ H2.out HC2.out).mono ?_); rintro e w1 ⟨he_, hb⟩; rw [HMP.out] at he_; subst he_; have H1 := Aside0.mk (Kd.C_below H1.out hb); have H2 := Aside0.mk (Kd.C_below H2.out hb); have H3 := Aside0.mk (Kd.C_below H3.out hb); have H4 := Aside0.mk (Kd.C_below H4.out hb); have HB := Aside0.mk (below_step HB.out hb); have X := Aside0.mk (blk_below X.out hb); clear x0 x2 x4; obtain ⟨x0, _, x2, _, x4, _, _⟩ := cellsS X.out; clear hb)
      | (go_at_call 13; (with_reducible refine (mayL_any u A3 c3 _ H3.out HC3.out).mono ?_); rintro e w1 ⟨he_, hb⟩; rw [HMU.out] at he_; subst he_; have H1 := Aside0.mk (Kd.C_below H1.out hb); have H2 := Aside0.mk (Kd.C_below H2.out hb); have H3 := Aside0.mk (Kd.C_below H3.out hb); have H4 := Aside0.mk (Kd.C_below H4.out hb); have HB := Aside0.mk (below_step HB.out hb); have X := Aside0.mk (blk_below X.out hb); clear x0 x2 x4; obtain ⟨x0, _, x2, _, x4, _, _⟩ := cellsS X.out; clear hb)
      | (go_at_call 13; (with_reducible refine (mayL_any (dropS l x.draw) A4 c4 _ H4.out HC4.out).mono ?_); rintro e w1 ⟨he_, hb⟩; rw [HMD.out] at he_; subst he_; have H1 := Aside0.mk (Kd.C_below H1.out hb); have H2 := Aside0.mk (Kd.C_below H2.out hb); have H3 := Aside0.mk (Kd.C_below H3.out hb); have H4 := Aside0.mk (Kd.C_below H4.out hb); have HB := Aside0.mk (below_step HB.out hb); have X := Aside0.mk (blk_below X.out hb); clear x0 x2 x4; obtain ⟨x0, _, x2, _, x4, _, _⟩ := cellsS X.out; clear hb))
    go_ret
    exact ⟨rfl, HB.out⟩
theorem times_iff' (idle now : Int) : timesB idle now = true ↔ 1 ≤ idle ∧ idle ≤ 1048576 ∧ 0 ≤ now ∧ now ≤ 1073741824 := by
  unfold timesB inB
  simp only [Bool.and_eq_true, decide_eq_true_eq]
  exact ⟨fun ⟨⟨a, b⟩, c, d⟩ => ⟨a, b, c, d⟩, fun ⟨a, b, c, d⟩ => ⟨⟨a, b⟩, c, d⟩⟩
theorem mayB_iff' (x : Ses) : mayB x = true ↔ (1 ≤ x.user ∧ x.user ≤ 255) ∧ (0 ≤ x.epoch ∧ x.epoch ≤ 1073741824) ∧ (0 ≤ x.last ∧ x.last ≤ 1073741824) ∧ (x.isOpen = true ∨ x.count = 0) := by
  unfold mayB inB
  simp only [Bool.and_eq_true, decide_eq_true_eq, Bool.or_eq_true]
theorem mayB_at {x : Ses} (h : mayB x = true) (now : Int) (h0 : 0 ≤ now) (h1 : now ≤ 1073741824) : mayB { x with last := now } = true := by
  rw [mayB_iff'] at h ⊢
  exact ⟨h.1, h.2.1, ⟨h0, h1⟩, h.2.2.2⟩
theorem mayP_sub {l k : List Ses} (h : mayP l) (hs : k.Sublist l) : mayP k := by
  obtain ⟨h1, h2, h3⟩ := h
  exact ⟨fun x hx => h1 x (hs.subset hx), (hs.map Ses.draw).nodup h2, by have := hs.length_le; omega⟩
theorem mayP_snoc {l : List Ses} {x : Ses} (h : mayP l) (hx : mayB x = true) (hd : ∀ y ∈ l, y.draw ≠ x.draw) (hl : l.length < 4) : mayP (l ++ [x]) := by
  obtain ⟨h1, h2, h3⟩ := h
  refine ⟨fun y hy => ?_, ?_, by rw [List.length_append, List.length_singleton]; omega⟩
  · rcases List.mem_append.1 hy with hy | hy
    · exact h1 y hy
    · rw [List.mem_singleton.1 hy]; exact hx
  · rw [List.map_append, List.nodup_append]
    refine ⟨h2, by simp, fun a ha b hb e => ?_⟩
    obtain ⟨y, hy, rfl⟩ := List.mem_map.1 ha
    simp at hb
    subst hb
    exact hd y hy e
theorem begin_may {l : List Ses} {x : Ses} {idle now : Int} {a : List Ses} {e : Int} (h : beginS l x idle now = (a, e)) (hm : mayP l) : mayP a ∧ (e = 0 ∨ (e ≠ 0 ∧ a = l)) := by
  obtain ⟨r', e', h', hc⟩ := beginS_spec l x idle now
  rw [h] at h'
  cases h'
  rcases hc with ⟨rfl, rfl, _⟩ | ⟨_, ht, hmx, ho, ⟨rfl, rfl, _⟩ | ⟨hf, ⟨rfl, rfl, _⟩ | ⟨rfl, ⟨h4, h5, rfl⟩ | ⟨h4, rfl⟩⟩⟩⟩
  · exact ⟨hm, .inr ⟨by decide, rfl⟩⟩
  · exact ⟨hm, .inr ⟨by decide, rfl⟩⟩
  · exact ⟨hm, .inr ⟨by decide, rfl⟩⟩
  · obtain ⟨t1, t2, t3, t4⟩ := (times_iff' _ _).1 ht
    have hsub : (awakeS l idle now).Sublist l := List.filter_sublist
    have hle := hsub.length_le
    refine ⟨mayP_snoc (mayP_sub hm hsub) (mayB_at hmx now t3 t4) (fun y hy => (findS_none_iff _ _).1 hf y (hsub.subset hy)) (by omega), .inl rfl⟩
  · obtain ⟨t1, t2, t3, t4⟩ := (times_iff' _ _).1 ht
    have := hm.2.2
    exact ⟨mayP_snoc hm (mayB_at hmx now t3 t4) (fun y hy => (findS_none_iff _ _).1 hf y hy) (by omega), .inl rfl⟩
theorem drop_may {l : List Ses} (d : Int) (hm : mayP l) : mayP (dropS l d) := by
  unfold dropS
  split
  · exact hm
  · exact mayP_erase hm _
theorem prove_may {l : List Ses} {d idle now : Int} {r : List Ses} {e : Int} (h : proveS l d idle now = (r, e)) (hm : mayP l) : mayP r ∧ (e = 0 ∨ (e ≠ 0 ∧ e ≠ 9 ∧ r = l) ∨ (e = 9 ∧ r = dropS l d)) := by
  obtain ⟨r', e', h', hc⟩ := proveS_spec l d idle now
  rw [h] at h'
  cases h'
  rcases hc with ⟨rfl, rfl, _⟩ | ⟨_, ht, ⟨rfl, rfl, _⟩ | ⟨i, x, hf, hx, ⟨rfl, rfl, _⟩ | ⟨_, ⟨rfl, rfl, _⟩ | ⟨_, rfl, rfl⟩⟩⟩⟩
  · exact ⟨hm, .inr (.inl ⟨by decide, by decide, rfl⟩)⟩
  · exact ⟨hm, .inr (.inl ⟨by decide, by decide, rfl⟩)⟩
  · exact ⟨mayP_erase hm i, .inr (.inr ⟨rfl, (drop_at hf).symm⟩)⟩
  · exact ⟨hm, .inr (.inl ⟨by decide, by decide, rfl⟩)⟩
  · obtain ⟨t1, t2, t3, t4⟩ := (times_iff' _ _).1 ht
    refine ⟨mayP_set hm hx (by rfl) ?_, .inl rfl⟩
    have h1 := (mayB_iff' x).1 (hm.1 x (List.mem_of_getElem? hx))
    exact (mayB_iff' _).2 ⟨h1.1, h1.2.1, ⟨t3, t4⟩, .inl rfl⟩
theorem use_may {l : List Ses} {d count idle now : Int} {r : List Ses} {e : Int} (h : useS l d count idle now = (r, e)) (hm : mayP l) : mayP r ∧ (e = 0 ∨ (e ≠ 0 ∧ e ≠ 9 ∧ r = l) ∨ (e = 9 ∧ r = dropS l d)) := by
  obtain ⟨r', e', h', hc⟩ := useS_spec l d count idle now
  rw [h] at h'
  cases h'
  rcases hc with ⟨rfl, rfl, _⟩ | ⟨_, ht, ⟨rfl, rfl, _⟩ | ⟨i, x, hf, hx, ho, ⟨rfl, rfl, _⟩ | ⟨_, ⟨rfl, rfl, _⟩ | ⟨_, _, rfl, rfl⟩ | ⟨_, _, rfl, rfl⟩⟩⟩⟩
  · exact ⟨hm, .inr (.inl ⟨by decide, by decide, rfl⟩)⟩
  · exact ⟨hm, .inr (.inl ⟨by decide, by decide, rfl⟩)⟩
  · exact ⟨mayP_erase hm i, .inr (.inr ⟨rfl, (drop_at hf).symm⟩)⟩
  · exact ⟨hm, .inr (.inl ⟨by decide, by decide, rfl⟩)⟩
  · exact ⟨mayP_erase hm i, .inl rfl⟩
  · obtain ⟨t1, t2, t3, t4⟩ := (times_iff' _ _).1 ht
    refine ⟨mayP_set hm hx (by rfl) ?_, .inl rfl⟩
    have h1 := (mayB_iff' x).1 (hm.1 x (List.mem_of_getElem? hx))
    exact (mayB_iff' _).2 ⟨h1.1, h1.2.1, ⟨t3, t4⟩, .inl ho⟩
theorem sessStays_any (l : List Ses) (A : Option Addr) (c : Nat) (x : Ses) (count idle now : Int) (w : World) (hr : kS.C w A l.length l) (hc : l.length ≤ c) (gl : l.length ≤ maxLen ∧ ∀ x ∈ l, GS x) (gx : GS x) (g2 : (Lit.int .u64 count).wf = true) (g4 : (Lit.int .i64 idle).wf = true) (g5 : (Lit.int .i64 now).wf = true) :
    Calls Try.prog 7 #[.slice A l.length c, .agg (sca x), .int .u64 count, .int .i64 idle, .int .i64 now] w fun e w' => e = .returned (.bool true) ∧ Below w.heap.size w w' := by
  by_cases hfew : l.length ≤ 8
  · have hf := decide_eq_true hfew
    have hl : l.length < 1000000 := by omega
    cases hm : mayS l with
    | false =>
      have h1 : beginS l x idle now = (l, 1) := by unfold beginS; rw [if_pos (.inl hm)]
      exact stays_w0 l A c x count idle now w hr hc hf hm hl h1 (proveS_no (oldS_1 (.inl hm)) (by decide)) (useS_no (oldS_1 (.inl hm)) (by decide))
    | true =>
      have hmp := (mayS_iff l).1 hm
      obtain ⟨⟨a, e1⟩, ha⟩ : ∃ z, beginS l x idle now = z := ⟨_, rfl⟩
      obtain ⟨⟨p, e2⟩, hp⟩ : ∃ z, proveS l x.draw idle now = z := ⟨_, rfl⟩
      obtain ⟨⟨u, e3⟩, hu⟩ : ∃ z, useS l x.draw count idle now = z := ⟨_, rfl⟩
      obtain ⟨a1, a2⟩ := begin_may ha hmp
      obtain ⟨p1, p2⟩ := prove_may hp hmp
      obtain ⟨u1, u2⟩ := use_may hu hmp
      exact stays_w l A c x count idle now w hr hc hf hm hl a p u e1 e2 e3 ha hp hu a2 p2 u2 ((mayS_iff _).2 a1) ((mayS_iff _).2 p1) ((mayS_iff _).2 u1) ((mayS_iff _).2 (drop_may _ hmp))
  · exact stays_o1 l A c x count idle now w hr hc (decide_eq_false hfew)
end Go.Proofs.Ytmhphkclgdaajaa.P
