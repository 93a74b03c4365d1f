/- What LawSymAgree rests on, part 28: several texts put together. -/
import Derived.Test.YtdinphnljokigaaGreatS22
import Derived.Test.YtdinphnljokigaaGreatS27
import Derived.Test.YtdinphnljokigaaGreatS3
set_option linter.unusedVariables false
set_option linter.unnecessarySimpa false
set_option linter.unusedSimpArgs false
set_option maxRecDepth 100000
section
namespace Go.Proofs.YtdinphnljokigaaGreat.P
open Go.RowKit Go.Lib Go.Proofs.YtdinphnljokigaaGreatW.PrintWords Go.Proofs.YtdinphnljokigaaGreatW.PrintLast Go.Proofs.YtdinphnljokigaaGreatW.PrintMore
theorem cell_bel {w w' : World} {a : Addr} {v : Value} (h : w.cell? a = some v) (hb : Below w.heap.size w w') : w'.cell? a = some v :=
 (World.cell?_of_block (hb.block _ (World.block_lt_of_cell? w a h))).trans h
theorem ret_Te {tmps : Array Value} {w : World} {fn : Func} {p : Tmp} (h : fn.results = #[.cell p 36]) {g : Nat} {a b c : Value} (hp : tmps.getD p undef = .pointer (some ⟨g, 0, none⟩)) (hg : w.heap[g]? = some (.cells #[a, b, c] 36 (0, 0))) :
  (results fn tmps).run Tryz.prog w = .ok (.agg #[a, b, c]) w :=
 results_cell_row h tmps w g 36 #[a, b, c] (0, 0) _ hp hg Tryz.underlying36 rfl (by rw [infoTe]; rfl)
theorem keyL_any (n : Int) (w : World) : Calls Tryz.prog 15 #[.int .i64 n] w fun e w' => e = .returned (.agg #[.int .i64 1, .int .i64 n, .slice none 0 0]) ∧ Below w.heap.size w w' := by
 go_enter Tryz.func15, Tryz.ntmps15
 go_wp2_with (first
  | ((with_reducible refine alloc_Te rfl rfl ?_); intro g hg w1 hbox hb; have ALB := aq_ hb; have ALG := aq_ hg; have TB := aq_ hbox; clear hg hbox hb)
  | ((with_reducible refine store_Te2 (.tmp 2) (.tmp 4) rfl rfl rfl rfl rfl rfl TB.out ?_); intro w2 hx1 hs1 hb1 hf1; have HB := aq_ (ALB.out.trans (hb1 _ (Nat.le_of_eq ALG.out.symm))); have X := aq_ hx1; clear hx1 hs1 hb1 hf1))
 refine bodyPost_ret (ret_Te rfl rfl X.out) rfl ?_
 exact ⟨rfl, HB.out⟩
theorem knowMay_any (l : List S24) (A : Option Addr) (c : Nat) (w : World) (hC : Kd.C k24 w A l.length l) (hc : l.length ≤ c) : Calls Tryz.prog 19 #[.slice A l.length c] w fun e w' => e = .returned (.bool (mayL l)) ∧ Below w.heap.size w w' := know_May.calls A c l (mayL l) w hC hc rfl
theorem lacks_any (l : List S24) (t : S24) (A A2 : Option Addr) (c c2 : Nat) (r : List S24) (w : World) (hC : Kd.C k24 w A l.length l) (hc : l.length ≤ c) (hT : Kd.C k24 w A2 t.f2.length t.f2) (hc2 : t.f2.length ≤ c2) (h : know_Lacks.f l t.f0 t.f1 t.f2 = some r) :
  Calls Tryz.prog 27 #[.slice A l.length c, .agg #[.int .i64 t.f0, .int .i64 t.f1, .slice A2 t.f2.length c2]] w fun e w' => ∃ A4 c4, e = .returned (.slice A4 r.length c4) ∧ Below w.heap.size w w' := by
 refine (know_Lacks.calls A c l t.f0 t.f1 (fun k => k < w.heap.size) A2 c2 t.f2 r w hC hc (told_of k24_heap _ _ ⟨A2, c2, rfl, hc2, hT⟩) h).mono ?_
 rintro e w' ⟨v, rfl, hN, hb⟩
 obtain ⟨A4, c4, rfl, _⟩ := Kd.N_reads hN
 exact ⟨A4, c4, rfl, hb⟩
theorem makes_any (l : List S24) (t : S24) (A A2 : Option Addr) (c c2 : Nat) (w : World) (hl : lsize l ≤ 1000000) (ht : tsize t ≤ 1000000) (hC : Kd.C k24 w A l.length l) (hc : l.length ≤ c) (hT : Kd.C k24 w A2 t.f2.length t.f2) (hc2 : t.f2.length ≤ c2) :
  Calls Tryz.prog 11 #[.slice A l.length c, .agg #[.int .i64 t.f0, .int .i64 t.f1, .slice A2 t.f2.length c2]] w fun e w' => e = .returned (.bool (makesB l t)) ∧ Below w.heap.size w w' := by
 unfold makesB
 cases m1 : mayL l
 ·have M1 := aq_ m1
  have HL := aq_ hl
  have HT := aq_ ht
  have HC := aq_ hC
  have HCC := aq_ hc
  have TC := aq_ hT
  have TCC := aq_ hc2
  clear hl ht hC hc hT hc2
  go_enter Tryz.func11, Tryz.ntmps11
  go_upto_region 1 with fail
  obtain ⟨g, hg⟩ : ∃ g, g = w.heap.size := ⟨_, rfl⟩
  obtain ⟨w1, hw⟩ : ∃ w1, w1 = w.alloc (.cells #[.int .i64 t.f0, .int .i64 t.f1, .slice A2 t.f2.length c2] 36) := ⟨_, rfl⟩
  rw [← hw, ← hg]
  have XB := aq_ (show w1.heap[g]? = some (.cells #[.int .i64 t.f0, .int .i64 t.f1, .slice A2 t.f2.length c2] 36 (0, 0)) by rw [hw, hg]; exact blk_new _ _)
  have HB := aq_ (show Below w.heap.size w w1 by rw [hw]; exact below_alloc (Below.refl _ _) _)
  clear hw hg
  go_wp2_with ((go_at_call 19; (with_reducible refine (knowMay_any l A c _ (Kd.C_below HC.out HB.out) HCC.out).mono ?_)); rw [M1.out]; rintro e w2 ⟨rfl, hb⟩; have HB2 := aq_ (below_step HB.out hb); clear hb)
  go_ret
  exact ⟨rfl, HB2.out⟩
 have M1 := aq_ m1
 cases m2 : mayT t
 ·have M2 := aq_ m2
  have HL := aq_ hl
  have HT := aq_ ht
  have HC := aq_ hC
  have HCC := aq_ hc
  have TC := aq_ hT
  have TCC := aq_ hc2
  clear hl ht hC hc hT hc2
  go_enter Tryz.func11, Tryz.ntmps11
  go_upto_region 1 with fail
  obtain ⟨g, hg⟩ : ∃ g, g = w.heap.size := ⟨_, rfl⟩
  obtain ⟨w1, hw⟩ : ∃ w1, w1 = w.alloc (.cells #[.int .i64 t.f0, .int .i64 t.f1, .slice A2 t.f2.length c2] 36) := ⟨_, rfl⟩
  rw [← hw, ← hg]
  have XB := aq_ (show w1.heap[g]? = some (.cells #[.int .i64 t.f0, .int .i64 t.f1, .slice A2 t.f2.length c2] 36 (0, 0)) by rw [hw, hg]; exact blk_new _ _)
  have HB := aq_ (show Below w.heap.size w w1 by rw [hw]; exact below_alloc (Below.refl _ _) _)
  clear hw hg
  go_wp2_with (first
   | ((go_at_call 19; (with_reducible refine (knowMay_any l A c _ (Kd.C_below HC.out HB.out) HCC.out).mono ?_)); rw [M1.out]; rintro e w2 ⟨rfl, hb⟩; have HB2 := aq_ (below_step HB.out hb); obtain ⟨⟨p0, p1, p2⟩, _⟩ := cells3 (blk_below XB.out hb); clear hb)
   | ((go_at_call 26; (with_reducible refine (mayT_any t A2 c2 _ HT.out (Kd.C_below TC.out HB2.out) TCC.out).mono ?_)); rw [M2.out]; rintro e w3 ⟨rfl, hb⟩; have HB3 := aq_ (below_step HB2.out hb); clear hb))
  go_ret
  exact ⟨rfl, HB3.out⟩
 have M2 := aq_ m2
 obtain ⟨r, hr⟩ : ∃ r, addAll [] (missT (partsOf l) t) = r := ⟨_, rfl⟩
 have HR := aq_ (show know_Lacks.f l t.f0 t.f1 t.f2 = some r by rw [lacks_f l t hl ht, if_pos ⟨m1, m2⟩, hr])
 have HE := aq_ (show decide (missT (partsOf l) t = []) = ((r.length : Int) == 0) by rw [Bool.eq_iff_iff, decide_eq_true_eq, beq_iff_eq, ← addAll_nil_iff (missT (partsOf l) t), hr, ← List.length_eq_zero_iff]; omega)
 clear hr m1 m2
 have HL := aq_ hl
 have HT := aq_ ht
 have HC := aq_ hC
 have HCC := aq_ hc
 have TC := aq_ hT
 have TCC := aq_ hc2
 clear hl ht hC hc hT hc2
 go_enter Tryz.func11, Tryz.ntmps11
 go_upto_region 1 with fail
 obtain ⟨g, hg⟩ : ∃ g, g = w.heap.size := ⟨_, rfl⟩
 obtain ⟨w1, hw⟩ : ∃ w1, w1 = w.alloc (.cells #[.int .i64 t.f0, .int .i64 t.f1, .slice A2 t.f2.length c2] 36) := ⟨_, rfl⟩
 rw [← hw, ← hg]
 have XB := aq_ (show w1.heap[g]? = some (.cells #[.int .i64 t.f0, .int .i64 t.f1, .slice A2 t.f2.length c2] 36 (0, 0)) by rw [hw, hg]; exact blk_new _ _)
 have HB := aq_ (show Below w.heap.size w w1 by rw [hw]; exact below_alloc (Below.refl _ _) _)
 clear hw hg
 go_wp2_with (first
  | ((go_at_call 19; (with_reducible refine (knowMay_any l A c _ (Kd.C_below HC.out HB.out) HCC.out).mono ?_)); rw [M1.out]; rintro e w2 ⟨rfl, hb⟩; have HB2 := aq_ (below_step HB.out hb); have XB2 := aq_ (blk_below XB.out hb); obtain ⟨⟨p0, p1, p2⟩, _⟩ := cells3 XB2.out; clear hb)
  | ((go_at_call 26; (with_reducible refine (mayT_any t A2 c2 _ HT.out (Kd.C_below TC.out HB2.out) TCC.out).mono ?_)); rw [M2.out]; rintro e w3 ⟨rfl, hb⟩; have HB3 := aq_ (below_step HB2.out hb); clear p0 p1 p2; obtain ⟨⟨p0, p1, p2⟩, _⟩ := cells3 (blk_below XB2.out hb); clear hb)
  | ((go_at_call 27; (with_reducible refine (lacks_any l t A A2 c c2 r _ (Kd.C_below HC.out HB3.out) HCC.out (Kd.C_below TC.out HB3.out) TCC.out HR.out).mono ?_)); rintro e w4 ⟨A4, c4, rfl, hb⟩; have HB4 := aq_ (below_step HB3.out hb); clear hb))
 go_ret
 exact ⟨ret_bool (by rw [HE.out]; rfl), HB4.out⟩
set_option maxHeartbeats 4000000 in
theorem refSame_m : ∀ (m : Nat) (x y : S24) (Ax Ay : Option Addr) (cx cy : Nat) (w : World), tsize x ≤ m → Kd.C k24 w Ax x.f2.length x.f2 → Kd.C k24 w Ay y.f2.length y.f2 →
  Calls Tryz.prog 30 #[.agg #[.int .i64 x.f0, .int .i64 x.f1, .slice Ax x.f2.length cx], .agg #[.int .i64 y.f0, .int .i64 y.f1, .slice Ay y.f2.length cy]] w fun e w' => e = .returned (.bool (sameT x y)) ∧ Below w.heap.size w w' := by
 intro m
 induction m with
 | zero =>
  intro x y Ax Ay cx cy w hm _ _
  rw [tsize_eq] at hm
  omega
 | succ m ih =>
  intro x y Ax Ay cx cy w hm hX hY
  have IH := aq_ ih
  have HM := aq_ hm
  have HX := aq_ hX
  have HY := aq_ hY
  have hml : x.f2.length ≤ 9223372036854775807 := hX.2.1
  have hml2 : y.f2.length ≤ 9223372036854775807 := hY.2.1
  have HS := aq_ (sameT_eq x y)
  clear ih hm hX hY
  go_enter Tryz.func30, Tryz.ntmps30
  go_upto_region 1 with fail
  obtain ⟨g2, hg2⟩ : ∃ g, g = w.heap.size := ⟨_, rfl⟩
  obtain ⟨g3, hg3⟩ : ∃ g, g = w.heap.size + 1 := ⟨_, rfl⟩
  obtain ⟨w1, hw⟩ : ∃ w1, w1 = (w.alloc (.cells #[.int .i64 x.f0, .int .i64 x.f1, .slice Ax x.f2.length cx] 36)).alloc (.cells #[.int .i64 y.f0, .int .i64 y.f1, .slice Ay y.f2.length cy] 36) := ⟨_, rfl⟩
  rw [← hw, ← hg3, ← hg2]
  have XB := aq_ (show w1.heap[g2]? = some (.cells #[.int .i64 x.f0, .int .i64 x.f1, .slice Ax x.f2.length cx] 36 (0, 0)) by rw [hw, hg2]; exact blk_alloc (blk_new _ _) _)
  have YB := aq_ (show w1.heap[g3]? = some (.cells #[.int .i64 y.f0, .int .i64 y.f1, .slice Ay y.f2.length cy] 36 (0, 0)) by rw [hw, hg3, ← size_al w (.cells #[.int .i64 x.f0, .int .i64 x.f1, .slice Ax x.f2.length cx] 36)]; exact blk_new _ _)
  have HB := aq_ (show Below w.heap.size w w1 by rw [hw]; exact below_alloc (below_alloc (Below.refl _ _) _) _)
  have LB := aq_ (show w.heap.size ≤ w1.heap.size from HB.out.size)
  clear hw hg2 hg3
  obtain ⟨⟨p0, p1, p2⟩, _⟩ := cells3 XB.out
  obtain ⟨⟨r0, r1, r2⟩, _⟩ := cells3 YB.out
  cases e0 : (x.f0 != y.f0)
  case true =>
   have HV := aq_ (show sameT x y = false by rw [HS.out, show (x.f0 == y.f0) = false by simpa using e0]; rfl)
   go_wp2
   go_ret
   exact ⟨ret_bool HV.out.symm, HB.out⟩
  cases e1 : (x.f1 != y.f1)
  case true =>
   have HV := aq_ (show sameT x y = false by rw [HS.out, show (x.f1 == y.f1) = false by simpa using e1]; simp)
   go_wp2
   go_ret
   exact ⟨ret_bool HV.out.symm, HB.out⟩
  cases e2 : ((x.f2.length : Int) != (y.f2.length : Int))
  case true =>
   have HV := aq_ (show sameT x y = false by rw [HS.out, sameLs_len (by intro h; rw [h] at e2; simp at e2)]; simp)
   go_wp2
   go_ret
   exact ⟨ret_bool HV.out.symm, HB.out⟩
  have HQ := aq_ (show sameT x y = sameLs x.f2 y.f2 by rw [HS.out, show (x.f0 == y.f0) = true by simpa using e0, show (x.f1 == y.f1) = true by simpa using e1]; rfl)
  have HLN := aq_ (show x.f2.length = y.f2.length from Int.ofNat_inj.1 (by simpa using e2))
  go_wp2
  clear p0 p1 p2 r0 r1 r2
  go_loopw [5, 6] (fun v5 v6 wr => ∃ i : Nat, i ≤ x.f2.length ∧ v5 = .int .i64 i ∧ Aside0 (sameLs (x.f2.take i) (y.f2.take i) = true) ∧ Aside0 (wr.heap[g2]? = some (.cells #[.int .i64 x.f0, .int .i64 x.f1, .slice Ax x.f2.length cx] 36 (0, 0))) ∧ Aside0 (wr.heap[g3]? = some (.cells #[.int .i64 y.f0, .int .i64 y.f1, .slice Ay y.f2.length cy] 36 (0, 0))) ∧ Aside0 (Below w.heap.size w wr) ∧ Aside0 (w.heap.size ≤ wr.heap.size)) (fun v5 v6 _ => x.f2.length - (intOf v5).toNat)
  case atStart => exact ⟨0, by omega, rfl, ⟨by simp [sameLs]⟩, XB, YB, HB, LB⟩
  case round =>
   clear XB YB HB LB
   obtain ⟨i, hi, rfl, HT, XB, YB, HB, LB⟩ := hrel
   have p2 := (cells3 XB.out).1.2.2
   have q2 := (cells3 YB.out).1.2.2
   by_cases hlt : i < x.f2.length
   ·have hd : decide ((i : Int) < x.f2.length) = true := by simp; omega
    have hlt2 : i < y.f2.length := by have := HLN.out; omega
    obtain ⟨ax, A2, c2, hA, x0, x1, x2, _, hX2⟩ := at_T24 (Kd.C_below HX.out HB.out) (i : Int) (by omega) (by omega)
    obtain ⟨ay, A3, c3, hB, y0, y1, y2, _, hY2⟩ := at_T24 (Kd.C_below HY.out HB.out) (i : Int) (by omega) (by omega)
    subst hA
    subst hB
    rw [Int.toNat_natCast] at x0 x1 x2 y0 y1 y2
    have HX2 := aq_ hX2
    have HY2 := aq_ hY2
    clear hX2 hY2
    go_wp2
    refine start_ (n := 12) (S := fun w' => w'.cell? ⟨g2, 2, none⟩ = some (.slice (some ax) x.f2.length cx) ∧ w'.cell? ⟨g3, 2, none⟩ = some (.slice (some ay) y.f2.length cy) ∧ w'.cell? (ax.add (i * 3)) = some (.int .i64 (rd_T24 x.f2 (i : Int)).f0) ∧ w'.cell? ⟨(ax.add (i * 3)).block, (ax.add (i * 3)).off + 1, none⟩ = some (.int .i64 (rd_T24 x.f2 (i : Int)).f1) ∧ w'.cell? ⟨(ax.add (i * 3)).block, (ax.add (i * 3)).off + 2, none⟩ = some (.slice A2 (rd_T24 x.f2 (i : Int)).f2.length c2) ∧ w'.cell? (ay.add (i * 3)) = some (.int .i64 (rd_T24 y.f2 (i : Int)).f0) ∧ w'.cell? ⟨(ay.add (i * 3)).block, (ay.add (i * 3)).off + 1, none⟩ = some (.int .i64 (rd_T24 y.f2 (i : Int)).f1) ∧ w'.cell? ⟨(ay.add (i * 3)).block, (ay.add (i * 3)).off + 2, none⟩ = some (.slice A3 (rd_T24 y.f2 (i : Int)).f2.length c3)) (ds := []) #[false, false, false, false, false, false, false, false, false, false, false, false] (by kernel_rfl) rfl rfl ⟨p2, q2, x0, x1, x2, y0, y1, y2⟩ (fun hHeld => ?_)
    refine pz_ 0 (some 35) (bt_ 12 1) ?_
    refine pz_ 2 (some 37) (bt_ 12 5) ?_
    refine pz_ 5 (some 40) (bt_ 12 37) ?_
    refine pz_ 7 (some 42) (bt_ 12 165) ?_
    refine tz_ 1 (some 36) (bt_ 12 167) hHeld ?_
    refine pz_ 3 (some 38) (bt_ 12 175) ?_
    refine tz_ 4 (some 39) (bt_ 12 191) hHeld ?_
    refine tz_ 6 (some 41) (bt_ 12 255) hHeld ?_
    refine pz_ 8 (some 43) (bt_ 12 511) ?_
    refine tz_ 9 (some 44) (bt_ 12 1023) hHeld ?_
    refine gz_ 10 (some 45) (bt_ 12 2047) Tryz.func30 #[.agg #[.int .i64 (rd_T24 x.f2 (i : Int)).f0, .int .i64 (rd_T24 x.f2 (i : Int)).f1, .slice A2 (rd_T24 x.f2 (i : Int)).f2.length c2], .agg #[.int .i64 (rd_T24 y.f2 (i : Int)).f0, .int .i64 (rd_T24 y.f2 (i : Int)).f1, .slice A3 (rd_T24 y.f2 (i : Int)).f2.length c3]] fun K hK => ?_
    with_reducible refine (IH.out (rd_T24 x.f2 (i : Int)) (rd_T24 y.f2 (i : Int)) A2 A3 c2 c3 _ (Nat.le_of_lt_succ (Nat.lt_of_lt_of_le (rdT_size x hlt) HM.out)) (Kd.C_drew HX2.out) (Kd.C_drew HY2.out)).mono ?_
    rintro e wq ⟨rfl, hb_⟩
    refine ⟨_, rfl, ?_⟩
    have XB' := aq_ (blk_below (blk_drew XB.out) hb_)
    have YB' := aq_ (blk_below (blk_drew YB.out) hb_)
    have HB' := aq_ ((below_drew HB.out).trans (Below.mono hb_ LB.out))
    have LB' := aq_ (Nat.le_trans (show w.heap.size ≤ wr.drew.heap.size from LB.out) (Below.size hb_))
    have p2_ := cell_bel (w := wr.drew) p2 hb_
    have q2_ := cell_bel (w := wr.drew) q2 hb_
    have x0_ := cell_bel (w := wr.drew) x0 hb_
    have x1_ := cell_bel (w := wr.drew) x1 hb_
    have x2_ := cell_bel (w := wr.drew) x2 hb_
    have y0_ := cell_bel (w := wr.drew) y0 hb_
    have y1_ := cell_bel (w := wr.drew) y1 hb_
    have y2_ := cell_bel (w := wr.drew) y2 hb_
    clear hb_
    refine hK.out _ _ ⟨p2_, q2_, x0_, x1_, x2_, y0_, y1_, y2_⟩ (fun hHeld => ?_)
    clear hK K
    refine nz_ ?_
    refine pz_ 11 (some 6) (bt_ 12 4095) ?_
    refine done_ (by kernel_rfl) ?_
    cases e3 : sameT (rd_T24 x.f2 (i : Int)) (rd_T24 y.f2 (i : Int))
    ·have HV := aq_ (show sameT x y = false by rw [HQ.out, same_at hlt hlt2, e3]; simp)
     go_wp2
     go_ret
     exact ⟨ret_bool HV.out.symm, HB'.out⟩
    ·have HT' := aq_ (show sameLs (x.f2.take (i + 1)) (y.f2.take (i + 1)) = true by rw [same_snoc hlt hlt2, HT.out, e3]; rfl)
     go_wp2
     go_roundw
     case rel => exact ⟨i + 1, by omega, by go_num, HT', XB', YB', HB', LB'⟩
     case measure => simp [intOf]; omega
   ·obtain rfl : i = x.f2.length := by omega
    have hd : decide ((x.f2.length : Int) < x.f2.length) = false := by simp
    have HV := aq_ (show sameT x y = true by have := HT.out; rw [List.take_length, HLN.out, List.take_length] at this; rw [HQ.out, this])
    go_wp2
    go_ret
    exact ⟨ret_bool HV.out.symm, HB.out⟩
theorem refSame_any (x y : S24) (Ax Ay : Option Addr) (cx cy : Nat) (w : World) (hX : Kd.C k24 w Ax x.f2.length x.f2) (hY : Kd.C k24 w Ay y.f2.length y.f2) :
  Calls Tryz.prog 30 #[.agg #[.int .i64 x.f0, .int .i64 x.f1, .slice Ax x.f2.length cx], .agg #[.int .i64 y.f0, .int .i64 y.f1, .slice Ay y.f2.length cy]] w fun e w' => e = .returned (.bool (sameT x y)) ∧ Below w.heap.size w w' :=
 refSame_m _ x y Ax Ay cx cy w (Nat.le_refl _) hX hY
set_option maxHeartbeats 4000000 in
theorem refIn_any (l : List S24) (t : S24) (A At : Option Addr) (c ct : Nat) (w : World) (hC : Kd.C k24 w A l.length l) (hT : Kd.C k24 w At t.f2.length t.f2) :
  Calls Tryz.prog 14 #[.slice A l.length c, .agg #[.int .i64 t.f0, .int .i64 t.f1, .slice At t.f2.length ct]] w fun e w' => e = .returned (.bool (inL l t)) ∧ Below w.heap.size w w' := by
 have HC := aq_ hC
 have TC := aq_ hT
 have hml : l.length ≤ 9223372036854775807 := hC.2.1
 clear hC hT
 go_enter Tryz.func14, Tryz.ntmps14
 go_upto_region 1 with fail
 obtain ⟨g, hg⟩ : ∃ g, g = w.heap.size := ⟨_, rfl⟩
 obtain ⟨w1, hw⟩ : ∃ w1, w1 = w.alloc (.cells #[.int .i64 t.f0, .int .i64 t.f1, .slice At t.f2.length ct] 36) := ⟨_, rfl⟩
 rw [← hw, ← hg]
 have TB := aq_ (show w1.heap[g]? = some (.cells #[.int .i64 t.f0, .int .i64 t.f1, .slice At t.f2.length ct] 36 (0, 0)) by rw [hw, hg]; exact blk_new _ _)
 have HB := aq_ (show Below w.heap.size w w1 by rw [hw]; exact below_alloc (Below.refl _ _) _)
 have LB := aq_ (show w.heap.size ≤ w1.heap.size from HB.out.size)
 clear hw hg
 go_wp2
 go_loopw [5, 6] (fun v5 v6 wr => ∃ i : Nat, i ≤ l.length ∧ v5 = .int .i64 i ∧ Aside0 (inL (l.take i) t = false) ∧ Aside0 (wr.heap[g]? = some (.cells #[.int .i64 t.f0, .int .i64 t.f1, .slice At t.f2.length ct] 36 (0, 0))) ∧ Aside0 (Below w.heap.size w wr) ∧ Aside0 (w.heap.size ≤ wr.heap.size)) (fun v5 v6 _ => l.length - (intOf v5).toNat)
 case atStart => exact ⟨0, by omega, rfl, ⟨by simp [inL]⟩, TB, HB, LB⟩
 case round =>
  clear TB HB LB
  obtain ⟨i, hi, rfl, HN, TB, HB, LB⟩ := hrel
  obtain ⟨⟨t0, t1, t2⟩, _⟩ := cells3 TB.out
  by_cases hlt : i < l.length
  ·have hd : decide ((i : Int) < l.length) = true := by simp; omega
   obtain ⟨ad, A2, c2, hA, x0, x1, x2, _, hX2⟩ := at_T24 (Kd.C_below HC.out HB.out) (i : Int) (by omega) (by omega)
   subst hA
   rw [Int.toNat_natCast] at x0 x1 x2
   have HX2 := aq_ hX2
   clear hX2
   go_wp2
   refine start_ (n := 7) (S := fun w' => w'.cell? ⟨g, 0, none⟩ = some (.int .i64 t.f0) ∧ w'.cell? ⟨g, 1, none⟩ = some (.int .i64 t.f1) ∧ w'.cell? ⟨g, 2, none⟩ = some (.slice At t.f2.length ct) ∧ w'.cell? (ad.add (i * 3)) = some (.int .i64 (rd_T24 l (i : Int)).f0) ∧ w'.cell? ⟨(ad.add (i * 3)).block, (ad.add (i * 3)).off + 1, none⟩ = some (.int .i64 (rd_T24 l (i : Int)).f1) ∧ w'.cell? ⟨(ad.add (i * 3)).block, (ad.add (i * 3)).off + 2, none⟩ = some (.slice A2 (rd_T24 l (i : Int)).f2.length c2)) (ds := []) #[false, false, false, false, false, false, false] (by kernel_rfl) rfl rfl ⟨t0, t1, t2, x0, x1, x2⟩ (fun hHeld => ?_)
   refine pz_ 0 (some 13) (bt_ 7 1) ?_
   refine pz_ 1 (some 14) (bt_ 7 3) ?_
   refine pz_ 2 (some 15) (bt_ 7 7) ?_
   refine tz_ 3 (some 16) (bt_ 7 15) hHeld ?_
   refine tz_ 4 (some 17) (bt_ 7 31) hHeld ?_
   refine gz_ 5 (some 18) (bt_ 7 63) Tryz.func30 #[.agg #[.int .i64 (rd_T24 l (i : Int)).f0, .int .i64 (rd_T24 l (i : Int)).f1, .slice A2 (rd_T24 l (i : Int)).f2.length c2], .agg #[.int .i64 t.f0, .int .i64 t.f1, .slice At t.f2.length ct]] fun K hK => ?_
   with_reducible refine (refSame_any (rd_T24 l (i : Int)) t A2 At c2 ct _ (Kd.C_drew HX2.out) (Kd.C_drew (Kd.C_below TC.out HB.out))).mono ?_
   rintro e wq ⟨rfl, hb_⟩
   refine ⟨_, rfl, ?_⟩
   have TB' := aq_ (blk_below (blk_drew TB.out) hb_)
   have HB' := aq_ ((below_drew HB.out).trans (Below.mono hb_ LB.out))
   have LB' := aq_ (Nat.le_trans (show w.heap.size ≤ wr.drew.heap.size from LB.out) (Below.size hb_))
   have t0_ := cell_bel (w := wr.drew) t0 hb_
   have t1_ := cell_bel (w := wr.drew) t1 hb_
   have t2_ := cell_bel (w := wr.drew) t2 hb_
   have x0_ := cell_bel (w := wr.drew) x0 hb_
   have x1_ := cell_bel (w := wr.drew) x1 hb_
   have x2_ := cell_bel (w := wr.drew) x2 hb_
   clear hb_
   refine hK.out _ _ ⟨t0_, t1_, t2_, x0_, x1_, x2_⟩ (fun hHeld => ?_)
   clear hK K
   refine nz_ ?_
   refine pz_ 6 (some 6) (bt_ 7 127) ?_
   refine done_ (by kernel_rfl) ?_
   cases e3 : sameT (rd_T24 l (i : Int)) t
   ·have HN' := aq_ (show inL (l.take (i + 1)) t = false by rw [rdT_take l hlt]; have := HN.out; simp only [inL, List.any_append, List.any_cons, List.any_nil, Bool.or_false] at this ⊢; rw [this, e3]; rfl)
    go_wp2
    go_roundw
    case rel => exact ⟨i + 1, by omega, by go_num, HN', TB', HB', LB'⟩
    case measure => simp [intOf]; omega
   ·have HV := aq_ (show inL l t = true by unfold inL; rw [List.any_eq_true]; exact ⟨_, rdT_mem l hlt, e3⟩)
    go_wp2
    go_ret
    exact ⟨ret_bool HV.out.symm, HB'.out⟩
  ·obtain rfl : i = l.length := by omega
   have hd : decide ((l.length : Int) < l.length) = false := by simp
   have HV := aq_ (show inL l t = false by have := HN.out; rwa [List.take_length] at this)
   go_wp2
   go_ret
   exact ⟨ret_bool HV.out.symm, HB.out⟩
end Go.Proofs.YtdinphnljokigaaGreat.P
end
