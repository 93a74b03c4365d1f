-- Laid by a program of this session (wip/pp.py), which calls the kit's print.
import Derived.Test.YtphfejboahcnhaaPx0
import Derived.Test.YtphfejboahcnhaaPx1
import Derived.Test.YtphfejboahcnhaaPx4
import Derived.Test.YtphfejboahcnhaaPx5
namespace Go.Proofs.Ytphfejboahcnhaa.P
open Go.RowKit Go.Proofs.YtphfejboahcnhaaW.PrintWords Go.Proofs.YtphfejboahcnhaaW.PrintLast Go.Proofs.YtphfejboahcnhaaW.PrintMore
attribute [local go_sem] max2_int min2_int max_two min_two max_three min_three max_four min_four   -- for this text's walks alone
set_option linter.unusedVariables false
set_option linter.unusedSimpArgs false

attribute [local go_sem high] eqA25
/-! ### pelicanlaw10_EntrySame: function 8 -/
def pelicanlaw10_EntrySame.j0 : Nat → List (S25) → Int → Bool → Bool → Int → Int → Int → Int → Int → Int → Int → Int → Int → Option (Bool)
  | 0, _, _, _, _, _, _, _, _, _, _, _, _, _ => none
  | k + 1, x0, x2, x7, x23, x353000, x353001, x353002, x353003, x353004, x353005, x353006, x353007, x353008 => if x23 = true then (if x7 = true then (some (decide ((x0.length : Int) > 300))) else (some false)) else (if ([] : List (S25)).length + x0.length < 1954687338268 then ((some (([] : List (S25)) ++ x0 : List (S25))).bind fun y355 => ((some (([(⟨x353000, x353001, x353002, x353003, x353004, x353005, x353006, x353007, x353008⟩ : S25)] : List (S25)) : List (S25))).bind fun y358 => (if y355.length + y358.length < 1954687338268 then ((entry_Same.f k x0 (y355 ++ y358)).bind fun t364 => (if t364 = true then (some false) else (if x2 < 0 then (some true) else (if x2 ≥ (x0.length : Int) then (some true) else ((some (([] : List (S25)) ++ x0 : List (S25))).bind fun y365 => (if 0 ≤ x2 then (if x2 < (y365.length : Int) then ((entry_Same.f k x0 (y365.set (x2 : Int).toNat (⟨x353000, x353001, x353002, x353003, x353004, x353005, x353006, x353007, x353008⟩ : S25))).bind fun t369 => (if x2 < (x0.length : Int) then (some (t369 == (((rd_T25 x0 x2).f0) == x353000 && (((rd_T25 x0 x2).f1) == x353001 && (((rd_T25 x0 x2).f2) == x353002 && (((rd_T25 x0 x2).f3) == x353003 && (((rd_T25 x0 x2).f4) == x353004 && (((rd_T25 x0 x2).f5) == x353005 && (((rd_T25 x0 x2).f6) == x353006 && (((rd_T25 x0 x2).f7) == x353007 && (((rd_T25 x0 x2).f8) == x353008))))))))))) else (none))) else (none)) else (none))))))) else (none)))) else (none))
def pelicanlaw10_EntrySame.f (k : Nat) (l0 : List (S25)) (a1_0 : Int) (a1_1 : Int) (a1_2 : Int) (a1_3 : Int) (a1_4 : Int) (a1_5 : Int) (a1_6 : Int) (a1_7 : Int) (a1_8 : Int) (a2 : Int) : Option (Bool) := (pelicanlaw10_awake.f k).bind fun t353 => (if t353 = true then (if (l0.length : Int) > 300 then (pelicanlaw10_EntrySame.j0 k l0 a2 t353 true a1_0 a1_1 a1_2 a1_3 a1_4 a1_5 a1_6 a1_7 a1_8) else ((entry_Same.f k l0 l0).bind fun t354 => (pelicanlaw10_EntrySame.j0 k l0 a2 t353 (!t354) a1_0 a1_1 a1_2 a1_3 a1_4 a1_5 a1_6 a1_7 a1_8))) else (pelicanlaw10_EntrySame.j0 k l0 a2 t353 true a1_0 a1_1 a1_2 a1_3 a1_4 a1_5 a1_6 a1_7 a1_8))
theorem pelicanlaw10_EntrySame.mono_l : ∀ k, (∀ y0 y1 y2 y3 y4 y5 y6 y7 y8 y9 y10 y11 y12, LeO (pelicanlaw10_EntrySame.j0 k y0 y1 y2 y3 y4 y5 y6 y7 y8 y9 y10 y11 y12) (pelicanlaw10_EntrySame.j0 (k + 1) y0 y1 y2 y3 y4 y5 y6 y7 y8 y9 y10 y11 y12))
  | 0 => fun _ _ _ _ _ _ _ _ _ _ _ _ _ r h => by simp [pelicanlaw10_EntrySame.j0] at h
  | k + 1 => by
    have ih0 := pelicanlaw10_EntrySame.mono_l k
    · intro y0 y1 y2 y3 y4 y5 y6 y7 y8 y9 y10 y11 y12
      unfold pelicanlaw10_EntrySame.j0
      repeat' first
      | (with_reducible exact ih0 _ _ _ _ _ _ _ _ _ _ _ _ _)
      | (with_reducible exact entry_Same.mono _ _ _)
      | (with_reducible exact pelicanlaw10_awake.mono _)
      | (with_reducible exact LeO.refl _)
      | (with_reducible exact LeO.none _)
      | (with_reducible refine LeO.ite ?_ ?_)
      | (with_reducible refine LeO.bind ?_ (fun _ => ?_))
      | exact ih0 _ _ _ _ _ _ _ _ _ _ _ _ _
      | exact entry_Same.mono _ _ _
      | exact pelicanlaw10_awake.mono _
      | exact LeO.none _
      | refine LeO.ite ?_ ?_
      | refine LeO.bind ?_ (fun _ => ?_)
theorem pelicanlaw10_EntrySame.mono : ∀ a0 a1 a2 a3 a4 a5 a6 a7 a8 a9 a10 k, LeO (pelicanlaw10_EntrySame.f k a0 a1 a2 a3 a4 a5 a6 a7 a8 a9 a10) (pelicanlaw10_EntrySame.f (k + 1) a0 a1 a2 a3 a4 a5 a6 a7 a8 a9 a10) := by
  intro a0 a1 a2 a3 a4 a5 a6 a7 a8 a9 a10 k
  have ih0 := pelicanlaw10_EntrySame.mono_l k
  unfold pelicanlaw10_EntrySame.f
  repeat' first
      | (with_reducible exact ih0 _ _ _ _ _ _ _ _ _ _ _ _ _)
      | (with_reducible exact entry_Same.mono _ _ _)
      | (with_reducible exact pelicanlaw10_awake.mono _)
      | (with_reducible exact LeO.refl _)
      | (with_reducible exact LeO.none _)
      | (with_reducible refine LeO.ite ?_ ?_)
      | (with_reducible refine LeO.bind ?_ (fun _ => ?_))
      | exact ih0 _ _ _ _ _ _ _ _ _ _ _ _ _
      | exact entry_Same.mono _ _ _
      | exact pelicanlaw10_awake.mono _
      | exact LeO.none _
      | refine LeO.ite ?_ ?_
      | refine LeO.bind ?_ (fun _ => ?_)
def pelicanlaw10_EntrySame.T11 : Bool × List (List Nat × List Nat) := (true, [([], []), ([], []), ([0, 1], [0, 1]), ([], []), ([], []), ([3, 4], [3, 4]), ([5], [5]), ([], []), ([6, 7], [6, 7]), ([2, 8], [2, 8]), ([9, 2, 0, 1, 2, 3, 4, 5, 6, 7, 8, 9], [9])])
def pelicanlaw10_EntrySame.B11 : List Nat := [0, 0, 3, 0, 0, 24, 56, 0, 248, 511, 1023]
theorem pelicanlaw10_EntrySame.tab11 : rtab .any (opsOf Try.f8 11) = pelicanlaw10_EntrySame.T11 := by kernel_rfl
theorem pelicanlaw10_EntrySame.bits11 : waitsOk pelicanlaw10_EntrySame.T11.2 pelicanlaw10_EntrySame.B11 = true := by kernel_rfl
set_option maxHeartbeats 8000000 in
set_option maxRecDepth 100000 in
theorem pelicanlaw10_EntrySame.calls (k : Nat) (A0 : Option Addr) (c0 : Nat) (l0 : List (S25)) (a1_0 : Int) (a1_1 : Int) (a1_2 : Int) (a1_3 : Int) (a1_4 : Int) (a1_5 : Int) (a1_6 : Int) (a1_7 : Int) (a1_8 : Int) (a2 : Int) (r : Bool) (w : World) (hr0 : Kd.C k25 w A0 l0.length l0) (hc0 : l0.length ≤ c0) (h : pelicanlaw10_EntrySame.f k l0 a1_0 a1_1 a1_2 a1_3 a1_4 a1_5 a1_6 a1_7 a1_8 a2 = some r) (hr_0 : r = true) :
    Calls Try.prog 8 #[.slice A0 l0.length c0, .agg #[.int .i64 a1_0, .int .i64 a1_1, .int .i64 a1_2, .int .i64 a1_3, .int .u64 a1_4, .int .u64 a1_5, .int .i64 a1_6, .int .i64 a1_7, .int .i64 a1_8], .int .i64 a2] w fun e w' => e = .returned (.bool r) ∧ Below w.heap.size w w' := by
  have hr_ := Aside0.mk hr_0
  clear hr_0
  have hu25 := Try.underlying25
  have HR0 := Aside0.mk hr0
  have HC0 := Aside0.mk hc0
  clear hr0 hc0
  have HB := Aside0.mk (Below.refl w.heap.size w)
  have H : ((pelicanlaw10_awake.f k).bind fun t353 => (if t353 = true then (if (l0.length : Int) > 300 then (pelicanlaw10_EntrySame.j0 k l0 a2 t353 true a1_0 a1_1 a1_2 a1_3 a1_4 a1_5 a1_6 a1_7 a1_8) else ((entry_Same.f k l0 l0).bind fun t354 => (pelicanlaw10_EntrySame.j0 k l0 a2 t353 (!t354) a1_0 a1_1 a1_2 a1_3 a1_4 a1_5 a1_6 a1_7 a1_8))) else (pelicanlaw10_EntrySame.j0 k l0 a2 t353 true a1_0 a1_1 a1_2 a1_3 a1_4 a1_5 a1_6 a1_7 a1_8))) = some r := h
  clear h
  replace H := Option.bind_eq_some_iff.mp H
  obtain ⟨t353, A40, H⟩ := H
  replace H : (if t353 = true then (if (l0.length : Int) > 300 then (pelicanlaw10_EntrySame.j0 k l0 a2 t353 true a1_0 a1_1 a1_2 a1_3 a1_4 a1_5 a1_6 a1_7 a1_8) else ((entry_Same.f k l0 l0).bind fun t354 => (pelicanlaw10_EntrySame.j0 k l0 a2 t353 (!t354) a1_0 a1_1 a1_2 a1_3 a1_4 a1_5 a1_6 a1_7 a1_8))) else (pelicanlaw10_EntrySame.j0 k l0 a2 t353 true a1_0 a1_1 a1_2 a1_3 a1_4 a1_5 a1_6 a1_7 a1_8)) = some r := H
  have A4 := Aside0.mk A40
  clear A40
  have HC5 := Aside0.mk H
  clear H
  go_enter Try.func8, Try.ntmps8
  go_upto_region 2 with (first | ((with_reducible refine gate_dst (N := 4) rfl ?_); (try (refine gate_guard (by rfl) ?_; dsimp only)); refine box_event ?hg (N := 4) ?hd (cs := #[.int .i64 a1_0, .int .i64 a1_1, .int .i64 a1_2, .int .i64 a1_3, .int .u64 a1_4, .int .u64 a1_5, .int .i64 a1_6, .int .i64 a1_7, .int .i64 a1_8]) (t := 25) ?hr ?_; (case hd => rfl); (case hg => rfl); (case hr => first | (go_simp; done) | (go_simp; rfl)); intro gb352 hg w6 hbox hb; have n0_ := Aside0.mk (below_step (by repeat (first | (with_reducible first | exact HB.out | apply below_alloc | apply pw_below_drewN | apply below_drew1) | exact HB.out)) hb); have n1_ := Aside0.mk (hbox); have n2_ := Aside0.mk ((by rw [hg]; exact (below_size (by repeat (first | (with_reducible first | exact HB.out | apply below_alloc | apply pw_below_drewN | apply below_drew1) | exact HB.out))) : w.heap.size ≤ gb352)); have n3_ := Aside0.mk ((by rw [hg]; exact (below_size (by repeat (first | (with_reducible first | exact HB.out | apply below_alloc | apply pw_below_drewN | apply below_drew1) | exact HB.out))) : w.heap.size ≤ gb352)); clear HB; have HB := n0_; have BK352 := n1_; have GW352 := n2_; have GE352 := n3_; clear n0_ n1_ n2_ n3_; clear hb hbox hg) | ((with_reducible refine gate_callee (f := 9) rfl ?_); refine goesL_ (some 10) rfl rfl Try.func9 (by kernel_rfl) rfl #[] rfl (by (try simp only [List.map_toArray, List.map_cons, List.map_nil]); first | done | rfl | (simp only [List.length_drop, List.length_take]; rfl)) ?_; (with_reducible refine (pelicanlaw10_awake.calls k  t353 _ A4.out).mono ?_); rintro e w7 ⟨rfl, hb⟩; refine ⟨_, rfl, ?_⟩; have n0_ := Aside0.mk (blk_below (g := gb352) (o := .cells #[.int .i64 a1_0, .int .i64 a1_1, .int .i64 a1_2, .int .i64 a1_3, .int .u64 a1_4, .int .u64 a1_5, .int .i64 a1_6, .int .i64 a1_7, .int .i64 a1_8] 25 (0, 0)) (by (with_reducible repeat (first | refine blk_drewN ?_ _ | refine blk_drew ?_ | refine blk_alloc ?_ _)); exact BK352.out) hb); have n1_ := Aside0.mk (below_step (by repeat (first | (with_reducible first | exact HB.out | apply below_alloc | apply pw_below_drewN | apply below_drew1 | refine below_set ?_ GE352.out) | exact HB.out)) hb); clear BK352; clear HB; have BK352 := n0_; have HB := n1_; clear n0_ n1_; (try clear hb); (try clear hb2); (try clear hk); (try clear hi)))
  (try simp only [Act.put, List.setIfInBounds_toArray, List.set_cons_zero, List.set_cons_succ])
  go_cut [23] (fun v23 wc => ∃ (kq : Nat) (x23_4 : Bool), v23 = .bool x23_4 ∧ Aside0 (pelicanlaw10_EntrySame.j0 kq l0 a2 t353 x23_4 a1_0 a1_1 a1_2 a1_3 a1_4 a1_5 a1_6 a1_7 a1_8 = some r) ∧ Aside0 (kq ≤ k) ∧ Aside0 (wc.heap[gb352]? = some (.cells #[.int .i64 a1_0, .int .i64 a1_1, .int .i64 a1_2, .int .i64 a1_3, .int .u64 a1_4, .int .u64 a1_5, .int .i64 a1_6, .int .i64 a1_7, .int .i64 a1_8] 25 (0, 0))) ∧ Aside0 (Below w.heap.size w wc))
  case first =>
    have H := HC5.out
    clear HC5
    by_cases c8 : t353 = true
    · subst c8
      have H1 : (if (l0.length : Int) > 300 then (pelicanlaw10_EntrySame.j0 k l0 a2 true true a1_0 a1_1 a1_2 a1_3 a1_4 a1_5 a1_6 a1_7 a1_8) else ((entry_Same.f k l0 l0).bind fun t354 => (pelicanlaw10_EntrySame.j0 k l0 a2 true (!t354) a1_0 a1_1 a1_2 a1_3 a1_4 a1_5 a1_6 a1_7 a1_8))) = some r := by rw [if_pos rfl] at H; exact H
      clear H
      have H := H1
      clear H1
      by_cases c9 : (l0.length : Int) > 300
      · rw [if_pos c9] at H
        have c9b0 : decide (300 < (l0.length : Int)) = true := decide_eq_true c9
        have c9b1 : decide (300 < l0.length) = true := decide_eq_true (by omega)
        clear c9
        (first | rw [c9b0] | (simp only [i64_w, i32_w]; rw [c9b0]) | skip)
        have H' := Aside0.mk H
        clear H
        go_wp2
        go_meet
        case rel => exact ⟨_, (true), (by first | rfl | (simp; done) | (simp [*]; done)), H', ⟨by first | omega | exact Nat.le_refl _⟩, ⟨by (with_reducible repeat (first | refine blk_drewN ?_ _ | refine blk_drew ?_ | refine blk_alloc ?_ _)); exact BK352.out⟩, ⟨by repeat (first | (with_reducible first | exact HB.out | apply below_alloc | apply pw_below_drewN | apply below_drew1 | refine below_set ?_ GE352.out) | exact HB.out)⟩⟩
      · rw [if_neg c9] at H
        have c9b0 : decide (300 < (l0.length : Int)) = false := decide_eq_false c9
        have c9b1 : decide (300 < l0.length) = false := decide_eq_false (by omega)
        clear c9
        (first | rw [c9b0] | (simp only [i64_w, i32_w]; rw [c9b0]) | skip)
        replace H := Option.bind_eq_some_iff.mp H
        obtain ⟨t354, A100, H⟩ := H
        replace H : (pelicanlaw10_EntrySame.j0 k l0 a2 true (!t354) a1_0 a1_1 a1_2 a1_3 a1_4 a1_5 a1_6 a1_7 a1_8) = some r := H
        have A10 := Aside0.mk A100
        clear A100
        have H' := Aside0.mk H
        clear H
        go_wp2_with (first | (go_at_call 19; (with_reducible refine (entry_Same.calls k _ _ l0 _ _ l0 t354 _ ?side1 ?side2 ?side3 ?side4 A10.out).mono ?_); (case side1 => repeat (first | exact (Kd.C_below HR0.out HB.out) | (with_reducible refine Kd.C_alloc ?_ _) | (with_reducible refine Kd.C_drewN ?_ _) | (with_reducible refine Kd.C_drew ?_))); (case side2 => exact HC0.out); (case side3 => repeat (first | exact (Kd.C_below HR0.out HB.out) | (with_reducible refine Kd.C_alloc ?_ _) | (with_reducible refine Kd.C_drewN ?_ _) | (with_reducible refine Kd.C_drew ?_))); (case side4 => exact HC0.out); rintro e w' ⟨rfl, ⟨nd, rfl⟩⟩))
        go_meet
        case rel => exact ⟨_, (!t354), (by first | rfl | (simp; done) | (simp [*]; done)), H', ⟨by first | omega | exact Nat.le_refl _⟩, ⟨by (with_reducible repeat (first | refine blk_drewN ?_ _ | refine blk_drew ?_ | refine blk_alloc ?_ _)); exact BK352.out⟩, ⟨by repeat (first | (with_reducible first | exact HB.out | apply below_alloc | apply pw_below_drewN | apply below_drew1 | refine below_set ?_ GE352.out) | exact HB.out)⟩⟩
    · replace c8 := Bool.eq_false_iff.mpr c8
      subst c8
      have H1 : (pelicanlaw10_EntrySame.j0 k l0 a2 false true a1_0 a1_1 a1_2 a1_3 a1_4 a1_5 a1_6 a1_7 a1_8) = some r := by rw [if_neg (show ¬ (false = true) by decide)] at H; exact H
      clear H
      have H := H1
      clear H1
      have H' := Aside0.mk H
      clear H
      go_wp2
      go_meet
      case rel => exact ⟨_, (true), (by first | rfl | (simp; done) | (simp [*]; done)), H', ⟨by first | omega | exact Nat.le_refl _⟩, ⟨by (with_reducible repeat (first | refine blk_drewN ?_ _ | refine blk_drew ?_ | refine blk_alloc ?_ _)); exact BK352.out⟩, ⟨by repeat (first | (with_reducible first | exact HB.out | apply below_alloc | apply pw_below_drewN | apply below_drew1 | refine below_set ?_ GE352.out) | exact HB.out)⟩⟩
  case rest =>
    clear HC5
    try clear p2
    try clear c8
    try clear c9
    try clear c9b0
    try clear c9b1
    obtain ⟨kq, x23_4, rfl, HA, HJ4, BK352, HB⟩ := hcut
    cases kq with
    | zero => exact absurd HA.out (by simp [pelicanlaw10_EntrySame.j0])
    | succ kj4 =>
      have H := HA.out
      clear HA
      simp only [pelicanlaw10_EntrySame.j0] at H
      by_cases c11 : x23_4 = true
      · subst c11
        have H1 : (if t353 = true then (some (decide ((l0.length : Int) > 300))) else (some false)) = some r := by rw [if_pos rfl] at H; exact H
        clear H
        have H := H1
        clear H1
        by_cases c12 : t353 = true
        · subst c12
          have H1 : (some (decide ((l0.length : Int) > 300))) = some r := by rw [if_pos rfl] at H; exact H
          clear H
          have H := H1
          clear H1
          obtain rfl := Option.some.inj H
          go_wp2
          go_ret
          exact ⟨by first | rfl | (simp [errW_none, errW_some] <;> rfl) | (simp [*, errW_none, errW_some] <;> rfl), by repeat (first | (with_reducible first | exact HB.out | apply below_alloc | apply pw_below_drewN | apply below_drew1 | refine below_set ?_ GE352.out) | exact HB.out)⟩
        · replace c12 := Bool.eq_false_iff.mpr c12
          subst c12
          have H1 : (some false) = some r := by rw [if_neg (show ¬ (false = true) by decide)] at H; exact H
          clear H
          have H := H1
          clear H1
          exact absurd ((Option.some.inj H).trans hr_.out) (by decide)
      · replace c11 := Bool.eq_false_iff.mpr c11
        subst c11
        have H1 : (if ([] : List (S25)).length + l0.length < 1954687338268 then ((some (([] : List (S25)) ++ l0 : List (S25))).bind fun y355 => ((some (([(⟨a1_0, a1_1, a1_2, a1_3, a1_4, a1_5, a1_6, a1_7, a1_8⟩ : S25)] : List (S25)) : List (S25))).bind fun y358 => (if y355.length + y358.length < 1954687338268 then ((entry_Same.f kj4 l0 (y355 ++ y358)).bind fun t364 => (if t364 = true then (some false) else (if a2 < 0 then (some true) else (if a2 ≥ (l0.length : Int) then (some true) else ((some (([] : List (S25)) ++ l0 : List (S25))).bind fun y365 => (if 0 ≤ a2 then (if a2 < (y365.length : Int) then ((entry_Same.f kj4 l0 (y365.set (a2 : Int).toNat (⟨a1_0, a1_1, a1_2, a1_3, a1_4, a1_5, a1_6, a1_7, a1_8⟩ : S25))).bind fun t369 => (if a2 < (l0.length : Int) then (some (t369 == (((rd_T25 l0 a2).f0) == a1_0 && (((rd_T25 l0 a2).f1) == a1_1 && (((rd_T25 l0 a2).f2) == a1_2 && (((rd_T25 l0 a2).f3) == a1_3 && (((rd_T25 l0 a2).f4) == a1_4 && (((rd_T25 l0 a2).f5) == a1_5 && (((rd_T25 l0 a2).f6) == a1_6 && (((rd_T25 l0 a2).f7) == a1_7 && (((rd_T25 l0 a2).f8) == a1_8))))))))))) else (none))) else (none)) else (none))))))) else (none)))) else (none)) = some r := by rw [if_neg (show ¬ (false = true) by decide)] at H; exact H
        clear H
        have H := H1
        clear H1
        by_cases c13 : ([] : List (S25)).length + l0.length < 1954687338268
        · rw [if_pos c13] at H
          have LMc13 := Aside0.mk c13
          clear c13
          obtain ⟨y355, hy355⟩ : ∃ y_ : List (S25), y_ = (([] : List (S25)) ++ l0) := ⟨_, rfl⟩
          replace H : ((some (([(⟨a1_0, a1_1, a1_2, a1_3, a1_4, a1_5, a1_6, a1_7, a1_8⟩ : S25)] : List (S25)) : List (S25))).bind fun y358 => (if y355.length + y358.length < 1954687338268 then ((entry_Same.f kj4 l0 (y355 ++ y358)).bind fun t364 => (if t364 = true then (some false) else (if a2 < 0 then (some true) else (if a2 ≥ (l0.length : Int) then (some true) else ((some (([] : List (S25)) ++ l0 : List (S25))).bind fun y365 => (if 0 ≤ a2 then (if a2 < (y365.length : Int) then ((entry_Same.f kj4 l0 (y365.set (a2 : Int).toNat (⟨a1_0, a1_1, a1_2, a1_3, a1_4, a1_5, a1_6, a1_7, a1_8⟩ : S25))).bind fun t369 => (if a2 < (l0.length : Int) then (some (t369 == (((rd_T25 l0 a2).f0) == a1_0 && (((rd_T25 l0 a2).f1) == a1_1 && (((rd_T25 l0 a2).f2) == a1_2 && (((rd_T25 l0 a2).f3) == a1_3 && (((rd_T25 l0 a2).f4) == a1_4 && (((rd_T25 l0 a2).f5) == a1_5 && (((rd_T25 l0 a2).f6) == a1_6 && (((rd_T25 l0 a2).f7) == a1_7 && (((rd_T25 l0 a2).f8) == a1_8))))))))))) else (none))) else (none)) else (none))))))) else (none))) = some r := by first | (rw [hy355]; with_reducible exact H) | (have H2_ := (Option.bind_some _ _).symm.trans H; rw [hy355]; with_reducible exact H2_) | (have H2_ := (Option.bind_some _ _).symm.trans H; with_reducible exact H2_) | with_reducible exact H | (rw [hy355]; exact H) | exact H
          have Ny355 := Aside0.mk hy355
          clear hy355
          obtain ⟨y358, hy358⟩ : ∃ y_ : List (S25), y_ = (([(⟨a1_0, a1_1, a1_2, a1_3, a1_4, a1_5, a1_6, a1_7, a1_8⟩ : S25)] : List (S25))) := ⟨_, rfl⟩
          replace H : (if y355.length + y358.length < 1954687338268 then ((entry_Same.f kj4 l0 (y355 ++ y358)).bind fun t364 => (if t364 = true then (some false) else (if a2 < 0 then (some true) else (if a2 ≥ (l0.length : Int) then (some true) else ((some (([] : List (S25)) ++ l0 : List (S25))).bind fun y365 => (if 0 ≤ a2 then (if a2 < (y365.length : Int) then ((entry_Same.f kj4 l0 (y365.set (a2 : Int).toNat (⟨a1_0, a1_1, a1_2, a1_3, a1_4, a1_5, a1_6, a1_7, a1_8⟩ : S25))).bind fun t369 => (if a2 < (l0.length : Int) then (some (t369 == (((rd_T25 l0 a2).f0) == a1_0 && (((rd_T25 l0 a2).f1) == a1_1 && (((rd_T25 l0 a2).f2) == a1_2 && (((rd_T25 l0 a2).f3) == a1_3 && (((rd_T25 l0 a2).f4) == a1_4 && (((rd_T25 l0 a2).f5) == a1_5 && (((rd_T25 l0 a2).f6) == a1_6 && (((rd_T25 l0 a2).f7) == a1_7 && (((rd_T25 l0 a2).f8) == a1_8))))))))))) else (none))) else (none)) else (none))))))) else (none)) = some r := by first | (rw [hy358]; with_reducible exact H) | (have H2_ := (Option.bind_some _ _).symm.trans H; rw [hy358]; with_reducible exact H2_) | (have H2_ := (Option.bind_some _ _).symm.trans H; with_reducible exact H2_) | with_reducible exact H | (rw [hy358]; exact H) | exact H
          have Ny358 := Aside0.mk hy358
          clear hy358
          by_cases c14 : y355.length + y358.length < 1954687338268
          · rw [if_pos c14] at H
            have LMc14 := Aside0.mk c14
            clear c14
            obtain ⟨y361, hy361⟩ : ∃ y_ : List (S25), y_ = (y355 ++ y358) := ⟨_, rfl⟩
            replace H : ((entry_Same.f kj4 l0 y361).bind fun t364 => (if t364 = true then (some false) else (if a2 < 0 then (some true) else (if a2 ≥ (l0.length : Int) then (some true) else ((some (([] : List (S25)) ++ l0 : List (S25))).bind fun y365 => (if 0 ≤ a2 then (if a2 < (y365.length : Int) then ((entry_Same.f kj4 l0 (y365.set (a2 : Int).toNat (⟨a1_0, a1_1, a1_2, a1_3, a1_4, a1_5, a1_6, a1_7, a1_8⟩ : S25))).bind fun t369 => (if a2 < (l0.length : Int) then (some (t369 == (((rd_T25 l0 a2).f0) == a1_0 && (((rd_T25 l0 a2).f1) == a1_1 && (((rd_T25 l0 a2).f2) == a1_2 && (((rd_T25 l0 a2).f3) == a1_3 && (((rd_T25 l0 a2).f4) == a1_4 && (((rd_T25 l0 a2).f5) == a1_5 && (((rd_T25 l0 a2).f6) == a1_6 && (((rd_T25 l0 a2).f7) == a1_7 && (((rd_T25 l0 a2).f8) == a1_8))))))))))) else (none))) else (none)) else (none))))))) = some r := by first | (rw [hy361]; with_reducible exact H) | (have H2_ := (Option.bind_some _ _).symm.trans H; rw [hy361]; with_reducible exact H2_) | (have H2_ := (Option.bind_some _ _).symm.trans H; with_reducible exact H2_) | with_reducible exact H | (rw [hy361]; exact H) | exact H
            have Ny361 := Aside0.mk hy361
            clear hy361
            replace H := Option.bind_eq_some_iff.mp H
            obtain ⟨t364, A150, H⟩ := H
            replace H : (if t364 = true then (some false) else (if a2 < 0 then (some true) else (if a2 ≥ (l0.length : Int) then (some true) else ((some (([] : List (S25)) ++ l0 : List (S25))).bind fun y365 => (if 0 ≤ a2 then (if a2 < (y365.length : Int) then ((entry_Same.f kj4 l0 (y365.set (a2 : Int).toNat (⟨a1_0, a1_1, a1_2, a1_3, a1_4, a1_5, a1_6, a1_7, a1_8⟩ : S25))).bind fun t369 => (if a2 < (l0.length : Int) then (some (t369 == (((rd_T25 l0 a2).f0) == a1_0 && (((rd_T25 l0 a2).f1) == a1_1 && (((rd_T25 l0 a2).f2) == a1_2 && (((rd_T25 l0 a2).f3) == a1_3 && (((rd_T25 l0 a2).f4) == a1_4 && (((rd_T25 l0 a2).f5) == a1_5 && (((rd_T25 l0 a2).f6) == a1_6 && (((rd_T25 l0 a2).f7) == a1_7 && (((rd_T25 l0 a2).f8) == a1_8))))))))))) else (none))) else (none)) else (none)))))) = some r := H
            have A15 := Aside0.mk A150
            clear A150
            by_cases c16 : t364 = true
            · subst c16
              have H1 : (some false) = some r := by rw [if_pos rfl] at H; exact H
              clear H
              have H := H1
              clear H1
              exact absurd ((Option.some.inj H).trans hr_.out) (by decide)
            · replace c16 := Bool.eq_false_iff.mpr c16
              subst c16
              have H1 : (if a2 < 0 then (some true) else (if a2 ≥ (l0.length : Int) then (some true) else ((some (([] : List (S25)) ++ l0 : List (S25))).bind fun y365 => (if 0 ≤ a2 then (if a2 < (y365.length : Int) then ((entry_Same.f kj4 l0 (y365.set (a2 : Int).toNat (⟨a1_0, a1_1, a1_2, a1_3, a1_4, a1_5, a1_6, a1_7, a1_8⟩ : S25))).bind fun t369 => (if a2 < (l0.length : Int) then (some (t369 == (((rd_T25 l0 a2).f0) == a1_0 && (((rd_T25 l0 a2).f1) == a1_1 && (((rd_T25 l0 a2).f2) == a1_2 && (((rd_T25 l0 a2).f3) == a1_3 && (((rd_T25 l0 a2).f4) == a1_4 && (((rd_T25 l0 a2).f5) == a1_5 && (((rd_T25 l0 a2).f6) == a1_6 && (((rd_T25 l0 a2).f7) == a1_7 && (((rd_T25 l0 a2).f8) == a1_8))))))))))) else (none))) else (none)) else (none))))) = some r := by rw [if_neg (show ¬ (false = true) by decide)] at H; exact H
              clear H
              have H := H1
              clear H1
              by_cases c25 : a2 < 0
              · rw [if_pos c25] at H
                have c25b0 : decide (a2 < 0) = true := decide_eq_true c25
                clear c25
                obtain rfl := Option.some.inj H
                try go_wp2
                have n0_ := Aside0.mk (blk_drew BK352.out)
                have n1_ := Aside0.mk (below_drew1 HB.out)
                clear BK352
                clear HB
                have BK352 := n0_
                have HB := n1_
                clear n0_ n1_
                refine start_ (n := 6) (S := fun w' => w'.cell? ⟨gb352, 0, none⟩ = some (.int .i64 a1_0) ∧ w'.cell? ⟨gb352, 1, none⟩ = some (.int .i64 a1_1) ∧ w'.cell? ⟨gb352, 2, none⟩ = some (.int .i64 a1_2) ∧ w'.cell? ⟨gb352, 3, none⟩ = some (.int .i64 a1_3) ∧ w'.cell? ⟨gb352, 4, none⟩ = some (.int .u64 a1_4) ∧ w'.cell? ⟨gb352, 5, none⟩ = some (.int .u64 a1_5) ∧ w'.cell? ⟨gb352, 6, none⟩ = some (.int .i64 a1_6) ∧ w'.cell? ⟨gb352, 7, none⟩ = some (.int .i64 a1_7) ∧ w'.cell? ⟨gb352, 8, none⟩ = some (.int .i64 a1_8)) (ds := []) #[false, false, false, false, false, false] (by kernel_rfl) rfl rfl ⟨(blk_cell BK352.out 0).trans rfl, (blk_cell BK352.out 1).trans rfl, (blk_cell BK352.out 2).trans rfl, (blk_cell BK352.out 3).trans rfl, (blk_cell BK352.out 4).trans rfl, (blk_cell BK352.out 5).trans rfl, (blk_cell BK352.out 6).trans rfl, (blk_cell BK352.out 7).trans rfl, (blk_cell BK352.out 8).trans rfl⟩ (fun hHeld => ?_)
                generalize wc.drew = w26 at BK352 HB hHeld ⊢
                refine pure_ (i := 0) (N := some 30) (v := ?_) (a' := ?_) #[true, false, false, false, false, false] rfl rfl (by kernel_rfl) (fun _ _ _ h => h) (Or.inl ⟨by rfl, ?_⟩) ?_ ?_
                rotate_left
                · intro w'
                  go_simp
                  with_reducible rfl
                rotate_left
                · simp only [Act.put, List.setIfInBounds_toArray, List.set_cons_zero, List.set_cons_succ, i64_w, i32_w]
                  rfl
                refine take_ (i := 2) (N := some 32) (v := ?_) (a' := ?_) #[true, false, true, false, false, false] rfl rfl (by kernel_rfl) (fun _ _ _ h => h) (Or.inl ⟨by rfl, ?_⟩) hHeld ?_ ?_
                rotate_left
                · rintro w' ⟨s0, s1, s2, s3, s4, s5, s6, s7, s8⟩
                  go_simp
                  with_reducible rfl
                rotate_left
                · simp only [Act.put, List.setIfInBounds_toArray, List.set_cons_zero, List.set_cons_succ, i64_w, i32_w]
                  rfl
                refine join_ (σ := Value × Value) 2 #[true, true, true, true, false, false] (fun s_ => [(31, s_.1), (33, s_.2)]) (fun s_ w' => (w'.cell? ⟨gb352, 0, none⟩ = some (.int .i64 a1_0) ∧ w'.cell? ⟨gb352, 1, none⟩ = some (.int .i64 a1_1) ∧ w'.cell? ⟨gb352, 2, none⟩ = some (.int .i64 a1_2) ∧ w'.cell? ⟨gb352, 3, none⟩ = some (.int .i64 a1_3) ∧ w'.cell? ⟨gb352, 4, none⟩ = some (.int .u64 a1_4) ∧ w'.cell? ⟨gb352, 5, none⟩ = some (.int .u64 a1_5) ∧ w'.cell? ⟨gb352, 6, none⟩ = some (.int .i64 a1_6) ∧ w'.cell? ⟨gb352, 7, none⟩ = some (.int .i64 a1_7) ∧ w'.cell? ⟨gb352, 8, none⟩ = some (.int .i64 a1_8)) ∧ (Kd.R k25 25 w' w.heap.size (fun k_ => some k_ ≠ (s_.2 : Value).ownBlock ∧ k_ ≠ gb352) s_.1 y355) ∧ (Kd.R k25 25 w' w.heap.size (fun k_ => some k_ ≠ (s_.1 : Value).ownBlock ∧ k_ ≠ gb352) s_.2 y358) ∧ (w'.heap[gb352]? = some (.cells #[.int .i64 a1_0, .int .i64 a1_1, .int .i64 a1_2, .int .i64 a1_3, .int .u64 a1_4, .int .u64 a1_5, .int .i64 a1_6, .int .i64 a1_7, .int .i64 a1_8] 25 (0, 0))) ∧ (Below w.heap.size w w')) ?_ ?_
                rotate_left
                · intro hCont
                  refine two_ (i := 1) (j := 3) (Ni := some 31) (Nj := some 33) #[true, true, true, false, false, false] #[true, false, true, true, false, false] rfl rfl rfl rfl (by kernel_rfl) (by decide) (by decide) (fun K hK => ?_) (fun K hK => ?_)
                  · skip
                    refine Kd.R_append_rows_step k25 (w0 := w) w.heap.size rfl (.const (.slice none 0 0)) (.tmp 30) 27 25 (.agg #[(.int .i64 0), (.int .i64 0), (.int .i64 0), (.int .i64 0), (.int .u64 0), (.int .u64 0), (.int .i64 0), (.int .i64 0), (.int .i64 0)]) 72 rfl Try.underlying27 info25 rfl (by decide) (by omega) (.slice none 0 0) ([] : List (S25)) l0 _ _ _ (fun k_ => k_ ≠ gb352) (fun _ => False) rfl rfl ?aO ?aR (fun _ _ h => h) (fun _ h => h.elim) ?aF ?aB ?aS ?aL ?_
                    (case aR => repeat (first | exact (Kd.C_below HR0.out HB.out) | (with_reducible refine Kd.C_alloc ?_ _) | (with_reducible refine Kd.C_drewN ?_ _) | (with_reducible refine Kd.C_drew ?_)))
                    (case aB => exact (by repeat (first | (with_reducible first | exact HB.out | apply below_alloc | apply pw_below_drewN | apply below_drew1 | refine below_set ?_ GE352.out) | exact HB.out)))
                    (case aF => exact (fun k_ hk => Kd.freshB (g := gb352) (o := .cells #[.int .i64 a1_0, .int .i64 a1_1, .int .i64 a1_2, .int .i64 a1_3, .int .u64 a1_4, .int .u64 a1_5, .int .i64 a1_6, .int .i64 a1_7, .int .i64 a1_8] 25 (0, 0)) (by (with_reducible repeat (first | refine blk_drewN ?_ _ | refine blk_drew ?_ | refine blk_alloc ?_ _)); exact BK352.out) k_ hk))
                    (case aO => exact ((Kd.R_nil _ _ _ _ (fun k_ => k_ ≠ gb352))))
                    (case aS => exact (below_size (by repeat (first | (with_reducible first | exact HB.out | apply below_alloc | apply pw_below_drewN | apply below_drew1 | refine below_set ?_ GE352.out) | exact HB.out))))
                    (case aL => have := LMc13.out; omega)
                    intro v356 w27 ho hb hg hat
                    rw [← Ny355.out] at ho
                    have n0_ := Aside0.mk (blk_grown (g := gb352) (o := .cells #[.int .i64 a1_0, .int .i64 a1_1, .int .i64 a1_2, .int .i64 a1_3, .int .u64 a1_4, .int .u64 a1_5, .int .i64 a1_6, .int .i64 a1_7, .int .i64 a1_8] 25 (0, 0)) (by (with_reducible repeat (first | refine blk_drewN ?_ _ | refine blk_drew ?_ | refine blk_alloc ?_ _)); exact BK352.out) hg (by simp [Value.ownBlock]))
                    have n1_ := Aside0.mk (hb)
                    have n2_ := Aside0.mk (ho)
                    clear BK352
                    clear HB
                    have BK352 := n0_
                    have HB := n1_
                    have HO357 := n2_
                    clear n0_ n1_ n2_
                    clear ho hb hg hat
                    refine hK.out _ _ ⟨(blk_cell BK352.out 0).trans rfl, (blk_cell BK352.out 1).trans rfl, (blk_cell BK352.out 2).trans rfl, (blk_cell BK352.out 3).trans rfl, (blk_cell BK352.out 4).trans rfl, (blk_cell BK352.out 5).trans rfl, (blk_cell BK352.out 6).trans rfl, (blk_cell BK352.out 7).trans rfl, (blk_cell BK352.out 8).trans rfl⟩ (fun hHeld => ?_)
                    clear hK K
                    refine norm_ (a' := ?_) ?_ ?_
                    rotate_left
                    · show Act.put _ (some 31) _ = _
                      simp only [Act.put, List.setIfInBounds_toArray, List.set_cons_zero, List.set_cons_succ, i64_w, i32_w]
                      rfl
                    refine one_ (i := 3) (N := some 33) #[true, true, true, true, false, false] rfl rfl (by kernel_rfl) (by decide) (fun K hK => ?_)
                    refine Kd.R_lit_step k25 _ 25 ?hg (N := 33) ?hd (xs := ([(⟨a1_0, a1_1, a1_2, a1_3, a1_4, a1_5, a1_6, a1_7, a1_8⟩ : S25)] : List (S25))) (inner := [.int .i64 a1_0, .int .i64 a1_1, .int .i64 a1_2, .int .i64 a1_3, .int .u64 a1_4, .int .u64 a1_5, .int .i64 a1_6, .int .i64 a1_7, .int .i64 a1_8]) (ok := fun _ => True) (okp := fun _ => True) ?hr ?hp (fun _ hk => hk) trivial (Below.refl _ _) (Nat.le_refl _) (by simp) ?_; (case hd => rfl); (case hg => rfl); (case hr => first | (go_simp; done) | (go_simp; rfl)); (case hp => exact (Reps.c9 (show Kd.M k25 _ _ _ (⟨a1_0, a1_1, a1_2, a1_3, a1_4, a1_5, a1_6, a1_7, a1_8⟩ : S25) [.int .i64 a1_0, .int .i64 a1_1, .int .i64 a1_2, .int .i64 a1_3, .int .u64 a1_4, .int .u64 a1_5, .int .i64 a1_6, .int .i64 a1_7, .int .i64 a1_8] from (k25_mkM _ _ _ (⟨a1_0, a1_1, a1_2, a1_3, a1_4, a1_5, a1_6, a1_7, a1_8⟩ : S25) )) (Reps.none _ _)))
                    intro v359 w28 ho29 hb hg_ hnew_
                    clear hg_ hnew_
                    (first | rw [← Ny358.out] at ho29 | (simp only [Int.reduceToNat] at ho29; rw [← Ny358.out] at ho29))
                    have n0_ := Aside0.mk (Kd.R_elder' (by (with_reducible repeat (first | apply Kd.R_alloc | apply Kd.R_drewN | apply Kd.R_drew)); exact HO357.out) (Kd.R_base ho29) hb)
                    have n1_ := Aside0.mk (Kd.R_lower (Kd.R_newB (Kd.R_new' ho29 (Kd.R_lt (by (with_reducible repeat (first | apply Kd.R_alloc | apply Kd.R_drewN | apply Kd.R_drew)); exact HO357.out))) (g := gb352) (o := .cells #[.int .i64 a1_0, .int .i64 a1_1, .int .i64 a1_2, .int .i64 a1_3, .int .u64 a1_4, .int .u64 a1_5, .int .i64 a1_6, .int .i64 a1_7, .int .i64 a1_8] 25 (0, 0)) (by (with_reducible repeat (first | refine blk_drewN ?_ _ | refine blk_drew ?_ | refine blk_alloc ?_ _)); exact BK352.out)) (below_size (by repeat (first | (with_reducible first | exact HB.out | apply below_alloc | apply pw_below_drewN | apply below_drew1 | refine below_set ?_ GE352.out) | exact HB.out))))
                    have n2_ := Aside0.mk (blk_below (g := gb352) (o := .cells #[.int .i64 a1_0, .int .i64 a1_1, .int .i64 a1_2, .int .i64 a1_3, .int .u64 a1_4, .int .u64 a1_5, .int .i64 a1_6, .int .i64 a1_7, .int .i64 a1_8] 25 (0, 0)) (by (with_reducible repeat (first | refine blk_drewN ?_ _ | refine blk_drew ?_ | refine blk_alloc ?_ _)); exact BK352.out) hb)
                    have n3_ := Aside0.mk (below_step (by repeat (first | (with_reducible first | exact HB.out | apply below_alloc | apply pw_below_drewN | apply below_drew1 | refine below_set ?_ GE352.out) | exact HB.out)) hb)
                    clear HO357
                    clear BK352
                    clear HB
                    have HO357 := n0_
                    have HO360 := n1_
                    have BK352 := n2_
                    have HB := n3_
                    clear n0_ n1_ n2_ n3_
                    clear hb ho29
                    refine hK.out _ _ ⟨(blk_cell BK352.out 0).trans rfl, (blk_cell BK352.out 1).trans rfl, (blk_cell BK352.out 2).trans rfl, (blk_cell BK352.out 3).trans rfl, (blk_cell BK352.out 4).trans rfl, (blk_cell BK352.out 5).trans rfl, (blk_cell BK352.out 6).trans rfl, (blk_cell BK352.out 7).trans rfl, (blk_cell BK352.out 8).trans rfl⟩ (fun hHeld => ?_)
                    clear hK K
                    refine norm_ (a' := ?_) ?_ ?_
                    rotate_left
                    · show Act.put _ (some 33) _ = _
                      simp only [Act.put, List.setIfInBounds_toArray, List.set_cons_zero, List.set_cons_succ, i64_w, i32_w]
                      rfl
                    exact norm_ (by simp only [putAll, Act.put, List.setIfInBounds_toArray, List.set_cons_zero, List.set_cons_succ]) (hCont (v356, v359) _ ⟨hHeld, (by (with_reducible repeat (first | apply Kd.R_alloc | apply Kd.R_drewN | apply Kd.R_drew)); exact Kd.R_mono HO357.out (fun _ hk => ⟨hk.2, hk.1⟩)), (by (with_reducible repeat (first | apply Kd.R_alloc | apply Kd.R_drewN | apply Kd.R_drew)); exact Kd.R_mono HO360.out (fun _ hk => ⟨hk.1.2, hk.2⟩)), (by (with_reducible repeat (first | refine blk_drewN ?_ _ | refine blk_drew ?_ | refine blk_alloc ?_ _)); exact BK352.out), (by repeat (first | (with_reducible first | exact HB.out | apply below_alloc | apply pw_below_drewN | apply below_drew1 | refine below_set ?_ GE352.out) | exact HB.out))⟩)
                  · skip
                    refine Kd.R_lit_step k25 _ 25 ?hg (N := 33) ?hd (xs := ([(⟨a1_0, a1_1, a1_2, a1_3, a1_4, a1_5, a1_6, a1_7, a1_8⟩ : S25)] : List (S25))) (inner := [.int .i64 a1_0, .int .i64 a1_1, .int .i64 a1_2, .int .i64 a1_3, .int .u64 a1_4, .int .u64 a1_5, .int .i64 a1_6, .int .i64 a1_7, .int .i64 a1_8]) (ok := fun _ => True) (okp := fun _ => True) ?hr ?hp (fun _ hk => hk) trivial (Below.refl _ _) (Nat.le_refl _) (by simp) ?_; (case hd => rfl); (case hg => rfl); (case hr => first | (go_simp; done) | (go_simp; rfl)); (case hp => exact (Reps.c9 (show Kd.M k25 _ _ _ (⟨a1_0, a1_1, a1_2, a1_3, a1_4, a1_5, a1_6, a1_7, a1_8⟩ : S25) [.int .i64 a1_0, .int .i64 a1_1, .int .i64 a1_2, .int .i64 a1_3, .int .u64 a1_4, .int .u64 a1_5, .int .i64 a1_6, .int .i64 a1_7, .int .i64 a1_8] from (k25_mkM _ _ _ (⟨a1_0, a1_1, a1_2, a1_3, a1_4, a1_5, a1_6, a1_7, a1_8⟩ : S25) )) (Reps.none _ _)))
                    intro v359 w27 ho28 hb hg_ hnew_
                    clear hg_ hnew_
                    (first | rw [← Ny358.out] at ho28 | (simp only [Int.reduceToNat] at ho28; rw [← Ny358.out] at ho28))
                    have n0_ := Aside0.mk (Kd.R_lower (Kd.R_newB ho28 (g := gb352) (o := .cells #[.int .i64 a1_0, .int .i64 a1_1, .int .i64 a1_2, .int .i64 a1_3, .int .u64 a1_4, .int .u64 a1_5, .int .i64 a1_6, .int .i64 a1_7, .int .i64 a1_8] 25 (0, 0)) (by (with_reducible repeat (first | refine blk_drewN ?_ _ | refine blk_drew ?_ | refine blk_alloc ?_ _)); exact BK352.out)) (below_size (by repeat (first | (with_reducible first | exact HB.out | apply below_alloc | apply pw_below_drewN | apply below_drew1 | refine below_set ?_ GE352.out) | exact HB.out))))
                    have n1_ := Aside0.mk (blk_below (g := gb352) (o := .cells #[.int .i64 a1_0, .int .i64 a1_1, .int .i64 a1_2, .int .i64 a1_3, .int .u64 a1_4, .int .u64 a1_5, .int .i64 a1_6, .int .i64 a1_7, .int .i64 a1_8] 25 (0, 0)) (by (with_reducible repeat (first | refine blk_drewN ?_ _ | refine blk_drew ?_ | refine blk_alloc ?_ _)); exact BK352.out) hb)
                    have n2_ := Aside0.mk (below_step (by repeat (first | (with_reducible first | exact HB.out | apply below_alloc | apply pw_below_drewN | apply below_drew1 | refine below_set ?_ GE352.out) | exact HB.out)) hb)
                    clear BK352
                    clear HB
                    have HO360 := n0_
                    have BK352 := n1_
                    have HB := n2_
                    clear n0_ n1_ n2_
                    clear hb ho28
                    refine hK.out _ _ ⟨(blk_cell BK352.out 0).trans rfl, (blk_cell BK352.out 1).trans rfl, (blk_cell BK352.out 2).trans rfl, (blk_cell BK352.out 3).trans rfl, (blk_cell BK352.out 4).trans rfl, (blk_cell BK352.out 5).trans rfl, (blk_cell BK352.out 6).trans rfl, (blk_cell BK352.out 7).trans rfl, (blk_cell BK352.out 8).trans rfl⟩ (fun hHeld => ?_)
                    clear hK K
                    refine norm_ (a' := ?_) ?_ ?_
                    rotate_left
                    · show Act.put _ (some 33) _ = _
                      simp only [Act.put, List.setIfInBounds_toArray, List.set_cons_zero, List.set_cons_succ, i64_w, i32_w]
                      rfl
                    refine one_ (i := 1) (N := some 31) #[true, true, true, true, false, false] rfl rfl (by kernel_rfl) (by decide) (fun K hK => ?_)
                    refine Kd.R_append_rows_step k25 (w0 := w) w.heap.size rfl (.const (.slice none 0 0)) (.tmp 30) 27 25 (.agg #[(.int .i64 0), (.int .i64 0), (.int .i64 0), (.int .i64 0), (.int .u64 0), (.int .u64 0), (.int .i64 0), (.int .i64 0), (.int .i64 0)]) 72 rfl Try.underlying27 info25 rfl (by decide) (by omega) (.slice none 0 0) ([] : List (S25)) l0 _ _ _ (fun k_ => some k_ ≠ (v359 : Value).ownBlock ∧ k_ ≠ gb352) (fun _ => False) rfl rfl ?aO ?aR (fun _ _ h => h) (fun _ h => h.elim) ?aF ?aB ?aS ?aL ?_
                    (case aR => repeat (first | exact (Kd.C_below HR0.out HB.out) | (with_reducible refine Kd.C_alloc ?_ _) | (with_reducible refine Kd.C_drewN ?_ _) | (with_reducible refine Kd.C_drew ?_)))
                    (case aB => exact (by repeat (first | (with_reducible first | exact HB.out | apply below_alloc | apply pw_below_drewN | apply below_drew1 | refine below_set ?_ GE352.out) | exact HB.out)))
                    (case aF => exact (fun k_ hk => ⟨Kd.fresh' (Kd.R_lt (by (with_reducible repeat (first | apply Kd.R_alloc | apply Kd.R_drewN | apply Kd.R_drew)); exact HO360.out)) k_ hk, Kd.freshB (g := gb352) (o := .cells #[.int .i64 a1_0, .int .i64 a1_1, .int .i64 a1_2, .int .i64 a1_3, .int .u64 a1_4, .int .u64 a1_5, .int .i64 a1_6, .int .i64 a1_7, .int .i64 a1_8] 25 (0, 0)) (by (with_reducible repeat (first | refine blk_drewN ?_ _ | refine blk_drew ?_ | refine blk_alloc ?_ _)); exact BK352.out) k_ hk⟩))
                    (case aO => exact ((Kd.R_nil _ _ _ _ (fun k_ => some k_ ≠ (v359 : Value).ownBlock ∧ k_ ≠ gb352))))
                    (case aS => exact (below_size (by repeat (first | (with_reducible first | exact HB.out | apply below_alloc | apply pw_below_drewN | apply below_drew1 | refine below_set ?_ GE352.out) | exact HB.out))))
                    (case aL => have := LMc13.out; omega)
                    intro v356 w29 ho hb hg hat
                    rw [← Ny355.out] at ho
                    have n0_ := Aside0.mk (blk_grown (g := gb352) (o := .cells #[.int .i64 a1_0, .int .i64 a1_1, .int .i64 a1_2, .int .i64 a1_3, .int .u64 a1_4, .int .u64 a1_5, .int .i64 a1_6, .int .i64 a1_7, .int .i64 a1_8] 25 (0, 0)) (by (with_reducible repeat (first | refine blk_drewN ?_ _ | refine blk_drew ?_ | refine blk_alloc ?_ _)); exact BK352.out) hg (by simp [Value.ownBlock]))
                    have n1_ := Aside0.mk (Kd.R_after (Kd.R_apart_nil (by (with_reducible repeat (first | apply Kd.R_alloc | apply Kd.R_drewN | apply Kd.R_drew)); exact HO360.out)) hg hat)
                    have n2_ := Aside0.mk (hb)
                    have n3_ := Aside0.mk (ho)
                    clear BK352
                    clear HO360
                    clear HB
                    have BK352 := n0_
                    have HO360 := n1_
                    have HB := n2_
                    have HO357 := n3_
                    clear n0_ n1_ n2_ n3_
                    clear ho hb hg hat
                    refine hK.out _ _ ⟨(blk_cell BK352.out 0).trans rfl, (blk_cell BK352.out 1).trans rfl, (blk_cell BK352.out 2).trans rfl, (blk_cell BK352.out 3).trans rfl, (blk_cell BK352.out 4).trans rfl, (blk_cell BK352.out 5).trans rfl, (blk_cell BK352.out 6).trans rfl, (blk_cell BK352.out 7).trans rfl, (blk_cell BK352.out 8).trans rfl⟩ (fun hHeld => ?_)
                    clear hK K
                    refine norm_ (a' := ?_) ?_ ?_
                    rotate_left
                    · show Act.put _ (some 31) _ = _
                      simp only [Act.put, List.setIfInBounds_toArray, List.set_cons_zero, List.set_cons_succ, i64_w, i32_w]
                      rfl
                    exact norm_ (by simp only [putAll, Act.put, List.setIfInBounds_toArray, List.set_cons_zero, List.set_cons_succ]) (hCont (v356, v359) _ ⟨hHeld, (by (with_reducible repeat (first | apply Kd.R_alloc | apply Kd.R_drewN | apply Kd.R_drew)); exact HO357.out), (by (with_reducible repeat (first | apply Kd.R_alloc | apply Kd.R_drewN | apply Kd.R_drew)); exact Kd.R_mono HO360.out (fun _ hk => ⟨hk.2, hk.1.2⟩)), (by (with_reducible repeat (first | refine blk_drewN ?_ _ | refine blk_drew ?_ | refine blk_alloc ?_ _)); exact BK352.out), (by repeat (first | (with_reducible first | exact HB.out | apply below_alloc | apply pw_below_drewN | apply below_drew1 | refine below_set ?_ GE352.out) | exact HB.out))⟩)
                rintro ⟨v356, v359⟩ w30 ⟨hS_, h0_, h1_, h2_, h3_⟩
                have n0_ : Aside0 (Kd.R k25 25 w30 w.heap.size (fun k_ => some k_ ≠ (v359 : Value).ownBlock ∧ k_ ≠ gb352) v356 y355) := ⟨h0_⟩
                have n1_ : Aside0 (Kd.R k25 25 w30 w.heap.size (fun k_ => some k_ ≠ (v356 : Value).ownBlock ∧ k_ ≠ gb352) v359 y358) := ⟨h1_⟩
                have n2_ : Aside0 (w30.heap[gb352]? = some (.cells #[.int .i64 a1_0, .int .i64 a1_1, .int .i64 a1_2, .int .i64 a1_3, .int .u64 a1_4, .int .u64 a1_5, .int .i64 a1_6, .int .i64 a1_7, .int .i64 a1_8] 25 (0, 0))) := ⟨h2_⟩
                have n3_ : Aside0 (Below w.heap.size w w30) := ⟨h3_⟩
                clear BK352
                clear HB
                clear h0_ h1_ h2_ h3_
                have HO357 := n0_
                have HO360 := n1_
                have BK352 := n2_
                have HB := n3_
                clear n0_ n1_ n2_ n3_
                have hHeld : w30.cell? ⟨gb352, 0, none⟩ = some (.int .i64 a1_0) ∧ w30.cell? ⟨gb352, 1, none⟩ = some (.int .i64 a1_1) ∧ w30.cell? ⟨gb352, 2, none⟩ = some (.int .i64 a1_2) ∧ w30.cell? ⟨gb352, 3, none⟩ = some (.int .i64 a1_3) ∧ w30.cell? ⟨gb352, 4, none⟩ = some (.int .u64 a1_4) ∧ w30.cell? ⟨gb352, 5, none⟩ = some (.int .u64 a1_5) ∧ w30.cell? ⟨gb352, 6, none⟩ = some (.int .i64 a1_6) ∧ w30.cell? ⟨gb352, 7, none⟩ = some (.int .i64 a1_7) ∧ w30.cell? ⟨gb352, 8, none⟩ = some (.int .i64 a1_8) := hS_
                obtain ⟨Ao32, co32, eo32⟩ := Kd.R_slice HO360.out
                (first | subst eo32 | (injection eo32 with f1_ f2_ f3_; have f4_ := f1_.symm; have f5_ := f3_.symm; clear f1_ f2_ f3_; subst f4_; subst f5_))
                refine norm_ (a' := ?_) ?_ ?_
                rotate_left
                · simp only [putAll, Act.put, List.setIfInBounds_toArray, List.set_cons_zero, List.set_cons_succ]
                  rfl
                refine one_ (i := 4) (N := some 34) #[true, true, true, true, true, false] rfl rfl (by kernel_rfl) (by decide) (fun K hK => ?_)
                refine Kd.R_append_rows_step k25 (w0 := w) w.heap.size (by rfl) (.tmp 31) (.tmp 33) 27 25 (.agg #[(.int .i64 0), (.int .i64 0), (.int .i64 0), (.int .i64 0), (.int .u64 0), (.int .u64 0), (.int .i64 0), (.int .i64 0), (.int .i64 0)]) 72 rfl Try.underlying27 info25 rfl (by decide) (by omega) v356 y355 y358 _ _ _ (fun k_ => some k_ ≠ (.slice Ao32 y358.length co32 : Value).ownBlock ∧ k_ ≠ gb352) (fun _ => False) rfl rfl ?aO ?aR (fun _ _ h => h) (fun _ h => h.elim) ?aF ?aB ?aS ?aL ?_
                (case aR => repeat (first | exact (Kd.R_reads' HO360.out).2.2 | (with_reducible refine Kd.C_alloc ?_ _) | (with_reducible refine Kd.C_drewN ?_ _) | (with_reducible refine Kd.C_drew ?_)))
                (case aB => exact (by repeat (first | (with_reducible first | exact HB.out | apply below_alloc | apply pw_below_drewN | apply below_drew1 | refine below_set ?_ GE352.out) | exact HB.out)))
                (case aF => exact (fun k_ hk => ⟨Kd.fresh' (Kd.R_lt (by (with_reducible repeat (first | apply Kd.R_alloc | apply Kd.R_drewN | apply Kd.R_drew)); exact HO360.out)) k_ hk, Kd.freshB (g := gb352) (o := .cells #[.int .i64 a1_0, .int .i64 a1_1, .int .i64 a1_2, .int .i64 a1_3, .int .u64 a1_4, .int .u64 a1_5, .int .i64 a1_6, .int .i64 a1_7, .int .i64 a1_8] 25 (0, 0)) (by (with_reducible repeat (first | refine blk_drewN ?_ _ | refine blk_drew ?_ | refine blk_alloc ?_ _)); exact BK352.out) k_ hk⟩))
                (case aO => exact (by (with_reducible repeat (first | apply Kd.R_alloc | apply Kd.R_drewN | apply Kd.R_drew)); exact HO357.out))
                (case aS => exact (below_size (by repeat (first | (with_reducible first | exact HB.out | apply below_alloc | apply pw_below_drewN | apply below_drew1 | refine below_set ?_ GE352.out) | exact HB.out))))
                (case aL => have := LMc14.out; omega)
                intro v362 w31 ho hb hg hat
                rw [← Ny361.out] at ho
                have n0_ := Aside0.mk (blk_grown (g := gb352) (o := .cells #[.int .i64 a1_0, .int .i64 a1_1, .int .i64 a1_2, .int .i64 a1_3, .int .u64 a1_4, .int .u64 a1_5, .int .i64 a1_6, .int .i64 a1_7, .int .i64 a1_8] 25 (0, 0)) (by (with_reducible repeat (first | refine blk_drewN ?_ _ | refine blk_drew ?_ | refine blk_alloc ?_ _)); exact BK352.out) hg (Kd.R_away HO357.out (fun _ hk => hk.2)))
                have n1_ := Aside0.mk (Kd.R_after (ok := (fun k_ => k_ ≠ gb352)) (by (with_reducible repeat (first | apply Kd.R_alloc | apply Kd.R_drewN | apply Kd.R_drew)); exact Kd.R_mono HO360.out (fun _ hk => ⟨hk.2, hk.1⟩)) hg hat)
                have n2_ := Aside0.mk (hb)
                have n3_ := Aside0.mk (ho)
                clear BK352
                clear HO360
                clear HB
                clear HO357
                have BK352 := n0_
                have HO360 := n1_
                have HB := n2_
                have HO363 := n3_
                clear n0_ n1_ n2_ n3_
                clear ho hb hg hat
                refine hK.out _ _ ⟨(blk_cell BK352.out 0).trans rfl, (blk_cell BK352.out 1).trans rfl, (blk_cell BK352.out 2).trans rfl, (blk_cell BK352.out 3).trans rfl, (blk_cell BK352.out 4).trans rfl, (blk_cell BK352.out 5).trans rfl, (blk_cell BK352.out 6).trans rfl, (blk_cell BK352.out 7).trans rfl, (blk_cell BK352.out 8).trans rfl⟩ (fun hHeld => ?_)
                clear hK K
                refine norm_ (a' := ?_) ?_ ?_
                rotate_left
                · show Act.put _ (some 34) _ = _
                  simp only [Act.put, List.setIfInBounds_toArray, List.set_cons_zero, List.set_cons_succ, i64_w, i32_w]
                  rfl
                refine pure_ (i := 5) (N := some 8) (v := ?_) (a' := ?_) #[true, true, true, true, true, true] rfl rfl (by kernel_rfl) (fun _ _ _ h => h) (Or.inl ⟨by rfl, ?_⟩) ?_ ?_
                rotate_left
                · intro w'
                  go_simp
                  with_reducible rfl
                rotate_left
                · simp only [Act.put, List.setIfInBounds_toArray, List.set_cons_zero, List.set_cons_succ, i64_w, i32_w]
                  rfl
                refine done_ (by kernel_rfl) ?_
                obtain ⟨Ao33, co33, eo33⟩ := Kd.R_slice HO363.out
                subst eo33
                try go_wp2_with (first | ((with_reducible refine gate_callee (f := 19) rfl ?_); refine goesL_ (some 37) rfl rfl Try.func19 (by kernel_rfl) rfl #[.slice A0 l0.length c0, .slice Ao33 y361.length co33] rfl (by (try simp only [List.map_toArray, List.map_cons, List.map_nil]); first | done | rfl | (simp only [List.length_drop, List.length_take]; rfl)) ?_; (with_reducible refine (entry_Same.calls kj4 _ _ l0 _ _ y361 false _ ?side1 ?side2 ?side3 ?side4 A15.out).mono ?_); (case side1 => repeat (first | exact (Kd.C_below HR0.out HB.out) | (with_reducible refine Kd.C_alloc ?_ _) | (with_reducible refine Kd.C_drewN ?_ _) | (with_reducible refine Kd.C_drew ?_))); (case side2 => exact HC0.out); (case side3 => repeat (first | exact (Kd.R_reads' HO363.out).2.2 | (with_reducible refine Kd.C_alloc ?_ _) | (with_reducible refine Kd.C_drewN ?_ _) | (with_reducible refine Kd.C_drew ?_))); (case side4 => exact (Kd.R_reads' HO363.out).2.1); rintro e w' ⟨rfl, ⟨nd, rfl⟩⟩; refine ⟨_, rfl, ?_⟩))
                go_ret
                exact ⟨by first | rfl | (simp [errW_none, errW_some] <;> rfl) | (simp [*, errW_none, errW_some] <;> rfl), by repeat (first | (with_reducible first | exact HB.out | apply below_alloc | apply pw_below_drewN | apply below_drew1 | refine below_set ?_ GE352.out) | exact HB.out)⟩
              · rw [if_neg c25] at H
                have c25b0 : decide (a2 < 0) = false := decide_eq_false c25
                clear c25
                by_cases c34 : a2 ≥ (l0.length : Int)
                · rw [if_pos c34] at H
                  have c34b0 : decide ((l0.length : Int) ≤ a2) = true := decide_eq_true c34
                  clear c34
                  obtain rfl := Option.some.inj H
                  try go_wp2
                  have n0_ := Aside0.mk (blk_drew BK352.out)
                  have n1_ := Aside0.mk (below_drew1 HB.out)
                  clear BK352
                  clear HB
                  have BK352 := n0_
                  have HB := n1_
                  clear n0_ n1_
                  refine start_ (n := 6) (S := fun w' => w'.cell? ⟨gb352, 0, none⟩ = some (.int .i64 a1_0) ∧ w'.cell? ⟨gb352, 1, none⟩ = some (.int .i64 a1_1) ∧ w'.cell? ⟨gb352, 2, none⟩ = some (.int .i64 a1_2) ∧ w'.cell? ⟨gb352, 3, none⟩ = some (.int .i64 a1_3) ∧ w'.cell? ⟨gb352, 4, none⟩ = some (.int .u64 a1_4) ∧ w'.cell? ⟨gb352, 5, none⟩ = some (.int .u64 a1_5) ∧ w'.cell? ⟨gb352, 6, none⟩ = some (.int .i64 a1_6) ∧ w'.cell? ⟨gb352, 7, none⟩ = some (.int .i64 a1_7) ∧ w'.cell? ⟨gb352, 8, none⟩ = some (.int .i64 a1_8)) (ds := []) #[false, false, false, false, false, false] (by kernel_rfl) rfl rfl ⟨(blk_cell BK352.out 0).trans rfl, (blk_cell BK352.out 1).trans rfl, (blk_cell BK352.out 2).trans rfl, (blk_cell BK352.out 3).trans rfl, (blk_cell BK352.out 4).trans rfl, (blk_cell BK352.out 5).trans rfl, (blk_cell BK352.out 6).trans rfl, (blk_cell BK352.out 7).trans rfl, (blk_cell BK352.out 8).trans rfl⟩ (fun hHeld => ?_)
                  generalize wc.drew = w35 at BK352 HB hHeld ⊢
                  refine pure_ (i := 0) (N := some 30) (v := ?_) (a' := ?_) #[true, false, false, false, false, false] rfl rfl (by kernel_rfl) (fun _ _ _ h => h) (Or.inl ⟨by rfl, ?_⟩) ?_ ?_
                  rotate_left
                  · intro w'
                    go_simp
                    with_reducible rfl
                  rotate_left
                  · simp only [Act.put, List.setIfInBounds_toArray, List.set_cons_zero, List.set_cons_succ, i64_w, i32_w]
                    rfl
                  refine take_ (i := 2) (N := some 32) (v := ?_) (a' := ?_) #[true, false, true, false, false, false] rfl rfl (by kernel_rfl) (fun _ _ _ h => h) (Or.inl ⟨by rfl, ?_⟩) hHeld ?_ ?_
                  rotate_left
                  · rintro w' ⟨s0, s1, s2, s3, s4, s5, s6, s7, s8⟩
                    go_simp
                    with_reducible rfl
                  rotate_left
                  · simp only [Act.put, List.setIfInBounds_toArray, List.set_cons_zero, List.set_cons_succ, i64_w, i32_w]
                    rfl
                  refine join_ (σ := Value × Value) 2 #[true, true, true, true, false, false] (fun s_ => [(31, s_.1), (33, s_.2)]) (fun s_ w' => (w'.cell? ⟨gb352, 0, none⟩ = some (.int .i64 a1_0) ∧ w'.cell? ⟨gb352, 1, none⟩ = some (.int .i64 a1_1) ∧ w'.cell? ⟨gb352, 2, none⟩ = some (.int .i64 a1_2) ∧ w'.cell? ⟨gb352, 3, none⟩ = some (.int .i64 a1_3) ∧ w'.cell? ⟨gb352, 4, none⟩ = some (.int .u64 a1_4) ∧ w'.cell? ⟨gb352, 5, none⟩ = some (.int .u64 a1_5) ∧ w'.cell? ⟨gb352, 6, none⟩ = some (.int .i64 a1_6) ∧ w'.cell? ⟨gb352, 7, none⟩ = some (.int .i64 a1_7) ∧ w'.cell? ⟨gb352, 8, none⟩ = some (.int .i64 a1_8)) ∧ (Kd.R k25 25 w' w.heap.size (fun k_ => some k_ ≠ (s_.2 : Value).ownBlock ∧ k_ ≠ gb352) s_.1 y355) ∧ (Kd.R k25 25 w' w.heap.size (fun k_ => some k_ ≠ (s_.1 : Value).ownBlock ∧ k_ ≠ gb352) s_.2 y358) ∧ (w'.heap[gb352]? = some (.cells #[.int .i64 a1_0, .int .i64 a1_1, .int .i64 a1_2, .int .i64 a1_3, .int .u64 a1_4, .int .u64 a1_5, .int .i64 a1_6, .int .i64 a1_7, .int .i64 a1_8] 25 (0, 0))) ∧ (Below w.heap.size w w')) ?_ ?_
                  rotate_left
                  · intro hCont
                    refine two_ (i := 1) (j := 3) (Ni := some 31) (Nj := some 33) #[true, true, true, false, false, false] #[true, false, true, true, false, false] rfl rfl rfl rfl (by kernel_rfl) (by decide) (by decide) (fun K hK => ?_) (fun K hK => ?_)
                    · skip
                      refine Kd.R_append_rows_step k25 (w0 := w) w.heap.size rfl (.const (.slice none 0 0)) (.tmp 30) 27 25 (.agg #[(.int .i64 0), (.int .i64 0), (.int .i64 0), (.int .i64 0), (.int .u64 0), (.int .u64 0), (.int .i64 0), (.int .i64 0), (.int .i64 0)]) 72 rfl Try.underlying27 info25 rfl (by decide) (by omega) (.slice none 0 0) ([] : List (S25)) l0 _ _ _ (fun k_ => k_ ≠ gb352) (fun _ => False) rfl rfl ?aO ?aR (fun _ _ h => h) (fun _ h => h.elim) ?aF ?aB ?aS ?aL ?_
                      (case aR => repeat (first | exact (Kd.C_below HR0.out HB.out) | (with_reducible refine Kd.C_alloc ?_ _) | (with_reducible refine Kd.C_drewN ?_ _) | (with_reducible refine Kd.C_drew ?_)))
                      (case aB => exact (by repeat (first | (with_reducible first | exact HB.out | apply below_alloc | apply pw_below_drewN | apply below_drew1 | refine below_set ?_ GE352.out) | exact HB.out)))
                      (case aF => exact (fun k_ hk => Kd.freshB (g := gb352) (o := .cells #[.int .i64 a1_0, .int .i64 a1_1, .int .i64 a1_2, .int .i64 a1_3, .int .u64 a1_4, .int .u64 a1_5, .int .i64 a1_6, .int .i64 a1_7, .int .i64 a1_8] 25 (0, 0)) (by (with_reducible repeat (first | refine blk_drewN ?_ _ | refine blk_drew ?_ | refine blk_alloc ?_ _)); exact BK352.out) k_ hk))
                      (case aO => exact ((Kd.R_nil _ _ _ _ (fun k_ => k_ ≠ gb352))))
                      (case aS => exact (below_size (by repeat (first | (with_reducible first | exact HB.out | apply below_alloc | apply pw_below_drewN | apply below_drew1 | refine below_set ?_ GE352.out) | exact HB.out))))
                      (case aL => have := LMc13.out; omega)
                      intro v356 w36 ho hb hg hat
                      rw [← Ny355.out] at ho
                      have n0_ := Aside0.mk (blk_grown (g := gb352) (o := .cells #[.int .i64 a1_0, .int .i64 a1_1, .int .i64 a1_2, .int .i64 a1_3, .int .u64 a1_4, .int .u64 a1_5, .int .i64 a1_6, .int .i64 a1_7, .int .i64 a1_8] 25 (0, 0)) (by (with_reducible repeat (first | refine blk_drewN ?_ _ | refine blk_drew ?_ | refine blk_alloc ?_ _)); exact BK352.out) hg (by simp [Value.ownBlock]))
                      have n1_ := Aside0.mk (hb)
                      have n2_ := Aside0.mk (ho)
                      clear BK352
                      clear HB
                      have BK352 := n0_
                      have HB := n1_
                      have HO357 := n2_
                      clear n0_ n1_ n2_
                      clear ho hb hg hat
                      refine hK.out _ _ ⟨(blk_cell BK352.out 0).trans rfl, (blk_cell BK352.out 1).trans rfl, (blk_cell BK352.out 2).trans rfl, (blk_cell BK352.out 3).trans rfl, (blk_cell BK352.out 4).trans rfl, (blk_cell BK352.out 5).trans rfl, (blk_cell BK352.out 6).trans rfl, (blk_cell BK352.out 7).trans rfl, (blk_cell BK352.out 8).trans rfl⟩ (fun hHeld => ?_)
                      clear hK K
                      refine norm_ (a' := ?_) ?_ ?_
                      rotate_left
                      · show Act.put _ (some 31) _ = _
                        simp only [Act.put, List.setIfInBounds_toArray, List.set_cons_zero, List.set_cons_succ, i64_w, i32_w]
                        rfl
                      refine one_ (i := 3) (N := some 33) #[true, true, true, true, false, false] rfl rfl (by kernel_rfl) (by decide) (fun K hK => ?_)
                      refine Kd.R_lit_step k25 _ 25 ?hg (N := 33) ?hd (xs := ([(⟨a1_0, a1_1, a1_2, a1_3, a1_4, a1_5, a1_6, a1_7, a1_8⟩ : S25)] : List (S25))) (inner := [.int .i64 a1_0, .int .i64 a1_1, .int .i64 a1_2, .int .i64 a1_3, .int .u64 a1_4, .int .u64 a1_5, .int .i64 a1_6, .int .i64 a1_7, .int .i64 a1_8]) (ok := fun _ => True) (okp := fun _ => True) ?hr ?hp (fun _ hk => hk) trivial (Below.refl _ _) (Nat.le_refl _) (by simp) ?_; (case hd => rfl); (case hg => rfl); (case hr => first | (go_simp; done) | (go_simp; rfl)); (case hp => exact (Reps.c9 (show Kd.M k25 _ _ _ (⟨a1_0, a1_1, a1_2, a1_3, a1_4, a1_5, a1_6, a1_7, a1_8⟩ : S25) [.int .i64 a1_0, .int .i64 a1_1, .int .i64 a1_2, .int .i64 a1_3, .int .u64 a1_4, .int .u64 a1_5, .int .i64 a1_6, .int .i64 a1_7, .int .i64 a1_8] from (k25_mkM _ _ _ (⟨a1_0, a1_1, a1_2, a1_3, a1_4, a1_5, a1_6, a1_7, a1_8⟩ : S25) )) (Reps.none _ _)))
                      intro v359 w37 ho38 hb hg_ hnew_
                      clear hg_ hnew_
                      (first | rw [← Ny358.out] at ho38 | (simp only [Int.reduceToNat] at ho38; rw [← Ny358.out] at ho38))
                      have n0_ := Aside0.mk (Kd.R_elder' (by (with_reducible repeat (first | apply Kd.R_alloc | apply Kd.R_drewN | apply Kd.R_drew)); exact HO357.out) (Kd.R_base ho38) hb)
                      have n1_ := Aside0.mk (Kd.R_lower (Kd.R_newB (Kd.R_new' ho38 (Kd.R_lt (by (with_reducible repeat (first | apply Kd.R_alloc | apply Kd.R_drewN | apply Kd.R_drew)); exact HO357.out))) (g := gb352) (o := .cells #[.int .i64 a1_0, .int .i64 a1_1, .int .i64 a1_2, .int .i64 a1_3, .int .u64 a1_4, .int .u64 a1_5, .int .i64 a1_6, .int .i64 a1_7, .int .i64 a1_8] 25 (0, 0)) (by (with_reducible repeat (first | refine blk_drewN ?_ _ | refine blk_drew ?_ | refine blk_alloc ?_ _)); exact BK352.out)) (below_size (by repeat (first | (with_reducible first | exact HB.out | apply below_alloc | apply pw_below_drewN | apply below_drew1 | refine below_set ?_ GE352.out) | exact HB.out))))
                      have n2_ := Aside0.mk (blk_below (g := gb352) (o := .cells #[.int .i64 a1_0, .int .i64 a1_1, .int .i64 a1_2, .int .i64 a1_3, .int .u64 a1_4, .int .u64 a1_5, .int .i64 a1_6, .int .i64 a1_7, .int .i64 a1_8] 25 (0, 0)) (by (with_reducible repeat (first | refine blk_drewN ?_ _ | refine blk_drew ?_ | refine blk_alloc ?_ _)); exact BK352.out) hb)
                      have n3_ := Aside0.mk (below_step (by repeat (first | (with_reducible first | exact HB.out | apply below_alloc | apply pw_below_drewN | apply below_drew1 | refine below_set ?_ GE352.out) | exact HB.out)) hb)
                      clear HO357
                      clear BK352
                      clear HB
                      have HO357 := n0_
                      have HO360 := n1_
                      have BK352 := n2_
                      have HB := n3_
                      clear n0_ n1_ n2_ n3_
                      clear hb ho38
                      refine hK.out _ _ ⟨(blk_cell BK352.out 0).trans rfl, (blk_cell BK352.out 1).trans rfl, (blk_cell BK352.out 2).trans rfl, (blk_cell BK352.out 3).trans rfl, (blk_cell BK352.out 4).trans rfl, (blk_cell BK352.out 5).trans rfl, (blk_cell BK352.out 6).trans rfl, (blk_cell BK352.out 7).trans rfl, (blk_cell BK352.out 8).trans rfl⟩ (fun hHeld => ?_)
                      clear hK K
                      refine norm_ (a' := ?_) ?_ ?_
                      rotate_left
                      · show Act.put _ (some 33) _ = _
                        simp only [Act.put, List.setIfInBounds_toArray, List.set_cons_zero, List.set_cons_succ, i64_w, i32_w]
                        rfl
                      exact norm_ (by simp only [putAll, Act.put, List.setIfInBounds_toArray, List.set_cons_zero, List.set_cons_succ]) (hCont (v356, v359) _ ⟨hHeld, (by (with_reducible repeat (first | apply Kd.R_alloc | apply Kd.R_drewN | apply Kd.R_drew)); exact Kd.R_mono HO357.out (fun _ hk => ⟨hk.2, hk.1⟩)), (by (with_reducible repeat (first | apply Kd.R_alloc | apply Kd.R_drewN | apply Kd.R_drew)); exact Kd.R_mono HO360.out (fun _ hk => ⟨hk.1.2, hk.2⟩)), (by (with_reducible repeat (first | refine blk_drewN ?_ _ | refine blk_drew ?_ | refine blk_alloc ?_ _)); exact BK352.out), (by repeat (first | (with_reducible first | exact HB.out | apply below_alloc | apply pw_below_drewN | apply below_drew1 | refine below_set ?_ GE352.out) | exact HB.out))⟩)
                    · skip
                      refine Kd.R_lit_step k25 _ 25 ?hg (N := 33) ?hd (xs := ([(⟨a1_0, a1_1, a1_2, a1_3, a1_4, a1_5, a1_6, a1_7, a1_8⟩ : S25)] : List (S25))) (inner := [.int .i64 a1_0, .int .i64 a1_1, .int .i64 a1_2, .int .i64 a1_3, .int .u64 a1_4, .int .u64 a1_5, .int .i64 a1_6, .int .i64 a1_7, .int .i64 a1_8]) (ok := fun _ => True) (okp := fun _ => True) ?hr ?hp (fun _ hk => hk) trivial (Below.refl _ _) (Nat.le_refl _) (by simp) ?_; (case hd => rfl); (case hg => rfl); (case hr => first | (go_simp; done) | (go_simp; rfl)); (case hp => exact (Reps.c9 (show Kd.M k25 _ _ _ (⟨a1_0, a1_1, a1_2, a1_3, a1_4, a1_5, a1_6, a1_7, a1_8⟩ : S25) [.int .i64 a1_0, .int .i64 a1_1, .int .i64 a1_2, .int .i64 a1_3, .int .u64 a1_4, .int .u64 a1_5, .int .i64 a1_6, .int .i64 a1_7, .int .i64 a1_8] from (k25_mkM _ _ _ (⟨a1_0, a1_1, a1_2, a1_3, a1_4, a1_5, a1_6, a1_7, a1_8⟩ : S25) )) (Reps.none _ _)))
                      intro v359 w36 ho37 hb hg_ hnew_
                      clear hg_ hnew_
                      (first | rw [← Ny358.out] at ho37 | (simp only [Int.reduceToNat] at ho37; rw [← Ny358.out] at ho37))
                      have n0_ := Aside0.mk (Kd.R_lower (Kd.R_newB ho37 (g := gb352) (o := .cells #[.int .i64 a1_0, .int .i64 a1_1, .int .i64 a1_2, .int .i64 a1_3, .int .u64 a1_4, .int .u64 a1_5, .int .i64 a1_6, .int .i64 a1_7, .int .i64 a1_8] 25 (0, 0)) (by (with_reducible repeat (first | refine blk_drewN ?_ _ | refine blk_drew ?_ | refine blk_alloc ?_ _)); exact BK352.out)) (below_size (by repeat (first | (with_reducible first | exact HB.out | apply below_alloc | apply pw_below_drewN | apply below_drew1 | refine below_set ?_ GE352.out) | exact HB.out))))
                      have n1_ := Aside0.mk (blk_below (g := gb352) (o := .cells #[.int .i64 a1_0, .int .i64 a1_1, .int .i64 a1_2, .int .i64 a1_3, .int .u64 a1_4, .int .u64 a1_5, .int .i64 a1_6, .int .i64 a1_7, .int .i64 a1_8] 25 (0, 0)) (by (with_reducible repeat (first | refine blk_drewN ?_ _ | refine blk_drew ?_ | refine blk_alloc ?_ _)); exact BK352.out) hb)
                      have n2_ := Aside0.mk (below_step (by repeat (first | (with_reducible first | exact HB.out | apply below_alloc | apply pw_below_drewN | apply below_drew1 | refine below_set ?_ GE352.out) | exact HB.out)) hb)
                      clear BK352
                      clear HB
                      have HO360 := n0_
                      have BK352 := n1_
                      have HB := n2_
                      clear n0_ n1_ n2_
                      clear hb ho37
                      refine hK.out _ _ ⟨(blk_cell BK352.out 0).trans rfl, (blk_cell BK352.out 1).trans rfl, (blk_cell BK352.out 2).trans rfl, (blk_cell BK352.out 3).trans rfl, (blk_cell BK352.out 4).trans rfl, (blk_cell BK352.out 5).trans rfl, (blk_cell BK352.out 6).trans rfl, (blk_cell BK352.out 7).trans rfl, (blk_cell BK352.out 8).trans rfl⟩ (fun hHeld => ?_)
                      clear hK K
                      refine norm_ (a' := ?_) ?_ ?_
                      rotate_left
                      · show Act.put _ (some 33) _ = _
                        simp only [Act.put, List.setIfInBounds_toArray, List.set_cons_zero, List.set_cons_succ, i64_w, i32_w]
                        rfl
                      refine one_ (i := 1) (N := some 31) #[true, true, true, true, false, false] rfl rfl (by kernel_rfl) (by decide) (fun K hK => ?_)
                      refine Kd.R_append_rows_step k25 (w0 := w) w.heap.size rfl (.const (.slice none 0 0)) (.tmp 30) 27 25 (.agg #[(.int .i64 0), (.int .i64 0), (.int .i64 0), (.int .i64 0), (.int .u64 0), (.int .u64 0), (.int .i64 0), (.int .i64 0), (.int .i64 0)]) 72 rfl Try.underlying27 info25 rfl (by decide) (by omega) (.slice none 0 0) ([] : List (S25)) l0 _ _ _ (fun k_ => some k_ ≠ (v359 : Value).ownBlock ∧ k_ ≠ gb352) (fun _ => False) rfl rfl ?aO ?aR (fun _ _ h => h) (fun _ h => h.elim) ?aF ?aB ?aS ?aL ?_
                      (case aR => repeat (first | exact (Kd.C_below HR0.out HB.out) | (with_reducible refine Kd.C_alloc ?_ _) | (with_reducible refine Kd.C_drewN ?_ _) | (with_reducible refine Kd.C_drew ?_)))
                      (case aB => exact (by repeat (first | (with_reducible first | exact HB.out | apply below_alloc | apply pw_below_drewN | apply below_drew1 | refine below_set ?_ GE352.out) | exact HB.out)))
                      (case aF => exact (fun k_ hk => ⟨Kd.fresh' (Kd.R_lt (by (with_reducible repeat (first | apply Kd.R_alloc | apply Kd.R_drewN | apply Kd.R_drew)); exact HO360.out)) k_ hk, Kd.freshB (g := gb352) (o := .cells #[.int .i64 a1_0, .int .i64 a1_1, .int .i64 a1_2, .int .i64 a1_3, .int .u64 a1_4, .int .u64 a1_5, .int .i64 a1_6, .int .i64 a1_7, .int .i64 a1_8] 25 (0, 0)) (by (with_reducible repeat (first | refine blk_drewN ?_ _ | refine blk_drew ?_ | refine blk_alloc ?_ _)); exact BK352.out) k_ hk⟩))
                      (case aO => exact ((Kd.R_nil _ _ _ _ (fun k_ => some k_ ≠ (v359 : Value).ownBlock ∧ k_ ≠ gb352))))
                      (case aS => exact (below_size (by repeat (first | (with_reducible first | exact HB.out | apply below_alloc | apply pw_below_drewN | apply below_drew1 | refine below_set ?_ GE352.out) | exact HB.out))))
                      (case aL => have := LMc13.out; omega)
                      intro v356 w38 ho hb hg hat
                      rw [← Ny355.out] at ho
                      have n0_ := Aside0.mk (blk_grown (g := gb352) (o := .cells #[.int .i64 a1_0, .int .i64 a1_1, .int .i64 a1_2, .int .i64 a1_3, .int .u64 a1_4, .int .u64 a1_5, .int .i64 a1_6, .int .i64 a1_7, .int .i64 a1_8] 25 (0, 0)) (by (with_reducible repeat (first | refine blk_drewN ?_ _ | refine blk_drew ?_ | refine blk_alloc ?_ _)); exact BK352.out) hg (by simp [Value.ownBlock]))
                      have n1_ := Aside0.mk (Kd.R_after (Kd.R_apart_nil (by (with_reducible repeat (first | apply Kd.R_alloc | apply Kd.R_drewN | apply Kd.R_drew)); exact HO360.out)) hg hat)
                      have n2_ := Aside0.mk (hb)
                      have n3_ := Aside0.mk (ho)
                      clear BK352
                      clear HO360
                      clear HB
                      have BK352 := n0_
                      have HO360 := n1_
                      have HB := n2_
                      have HO357 := n3_
                      clear n0_ n1_ n2_ n3_
                      clear ho hb hg hat
                      refine hK.out _ _ ⟨(blk_cell BK352.out 0).trans rfl, (blk_cell BK352.out 1).trans rfl, (blk_cell BK352.out 2).trans rfl, (blk_cell BK352.out 3).trans rfl, (blk_cell BK352.out 4).trans rfl, (blk_cell BK352.out 5).trans rfl, (blk_cell BK352.out 6).trans rfl, (blk_cell BK352.out 7).trans rfl, (blk_cell BK352.out 8).trans rfl⟩ (fun hHeld => ?_)
                      clear hK K
                      refine norm_ (a' := ?_) ?_ ?_
                      rotate_left
                      · show Act.put _ (some 31) _ = _
                        simp only [Act.put, List.setIfInBounds_toArray, List.set_cons_zero, List.set_cons_succ, i64_w, i32_w]
                        rfl
                      exact norm_ (by simp only [putAll, Act.put, List.setIfInBounds_toArray, List.set_cons_zero, List.set_cons_succ]) (hCont (v356, v359) _ ⟨hHeld, (by (with_reducible repeat (first | apply Kd.R_alloc | apply Kd.R_drewN | apply Kd.R_drew)); exact HO357.out), (by (with_reducible repeat (first | apply Kd.R_alloc | apply Kd.R_drewN | apply Kd.R_drew)); exact Kd.R_mono HO360.out (fun _ hk => ⟨hk.2, hk.1.2⟩)), (by (with_reducible repeat (first | refine blk_drewN ?_ _ | refine blk_drew ?_ | refine blk_alloc ?_ _)); exact BK352.out), (by repeat (first | (with_reducible first | exact HB.out | apply below_alloc | apply pw_below_drewN | apply below_drew1 | refine below_set ?_ GE352.out) | exact HB.out))⟩)
                  rintro ⟨v356, v359⟩ w39 ⟨hS_, h0_, h1_, h2_, h3_⟩
                  have n0_ : Aside0 (Kd.R k25 25 w39 w.heap.size (fun k_ => some k_ ≠ (v359 : Value).ownBlock ∧ k_ ≠ gb352) v356 y355) := ⟨h0_⟩
                  have n1_ : Aside0 (Kd.R k25 25 w39 w.heap.size (fun k_ => some k_ ≠ (v356 : Value).ownBlock ∧ k_ ≠ gb352) v359 y358) := ⟨h1_⟩
                  have n2_ : Aside0 (w39.heap[gb352]? = some (.cells #[.int .i64 a1_0, .int .i64 a1_1, .int .i64 a1_2, .int .i64 a1_3, .int .u64 a1_4, .int .u64 a1_5, .int .i64 a1_6, .int .i64 a1_7, .int .i64 a1_8] 25 (0, 0))) := ⟨h2_⟩
                  have n3_ : Aside0 (Below w.heap.size w w39) := ⟨h3_⟩
                  clear BK352
                  clear HB
                  clear h0_ h1_ h2_ h3_
                  have HO357 := n0_
                  have HO360 := n1_
                  have BK352 := n2_
                  have HB := n3_
                  clear n0_ n1_ n2_ n3_
                  have hHeld : w39.cell? ⟨gb352, 0, none⟩ = some (.int .i64 a1_0) ∧ w39.cell? ⟨gb352, 1, none⟩ = some (.int .i64 a1_1) ∧ w39.cell? ⟨gb352, 2, none⟩ = some (.int .i64 a1_2) ∧ w39.cell? ⟨gb352, 3, none⟩ = some (.int .i64 a1_3) ∧ w39.cell? ⟨gb352, 4, none⟩ = some (.int .u64 a1_4) ∧ w39.cell? ⟨gb352, 5, none⟩ = some (.int .u64 a1_5) ∧ w39.cell? ⟨gb352, 6, none⟩ = some (.int .i64 a1_6) ∧ w39.cell? ⟨gb352, 7, none⟩ = some (.int .i64 a1_7) ∧ w39.cell? ⟨gb352, 8, none⟩ = some (.int .i64 a1_8) := hS_
                  obtain ⟨Ao41, co41, eo41⟩ := Kd.R_slice HO360.out
                  (first | subst eo41 | (injection eo41 with f1_ f2_ f3_; have f4_ := f1_.symm; have f5_ := f3_.symm; clear f1_ f2_ f3_; subst f4_; subst f5_))
                  refine norm_ (a' := ?_) ?_ ?_
                  rotate_left
                  · simp only [putAll, Act.put, List.setIfInBounds_toArray, List.set_cons_zero, List.set_cons_succ]
                    rfl
                  refine one_ (i := 4) (N := some 34) #[true, true, true, true, true, false] rfl rfl (by kernel_rfl) (by decide) (fun K hK => ?_)
                  refine Kd.R_append_rows_step k25 (w0 := w) w.heap.size (by rfl) (.tmp 31) (.tmp 33) 27 25 (.agg #[(.int .i64 0), (.int .i64 0), (.int .i64 0), (.int .i64 0), (.int .u64 0), (.int .u64 0), (.int .i64 0), (.int .i64 0), (.int .i64 0)]) 72 rfl Try.underlying27 info25 rfl (by decide) (by omega) v356 y355 y358 _ _ _ (fun k_ => some k_ ≠ (.slice Ao41 y358.length co41 : Value).ownBlock ∧ k_ ≠ gb352) (fun _ => False) rfl rfl ?aO ?aR (fun _ _ h => h) (fun _ h => h.elim) ?aF ?aB ?aS ?aL ?_
                  (case aR => repeat (first | exact (Kd.R_reads' HO360.out).2.2 | (with_reducible refine Kd.C_alloc ?_ _) | (with_reducible refine Kd.C_drewN ?_ _) | (with_reducible refine Kd.C_drew ?_)))
                  (case aB => exact (by repeat (first | (with_reducible first | exact HB.out | apply below_alloc | apply pw_below_drewN | apply below_drew1 | refine below_set ?_ GE352.out) | exact HB.out)))
                  (case aF => exact (fun k_ hk => ⟨Kd.fresh' (Kd.R_lt (by (with_reducible repeat (first | apply Kd.R_alloc | apply Kd.R_drewN | apply Kd.R_drew)); exact HO360.out)) k_ hk, Kd.freshB (g := gb352) (o := .cells #[.int .i64 a1_0, .int .i64 a1_1, .int .i64 a1_2, .int .i64 a1_3, .int .u64 a1_4, .int .u64 a1_5, .int .i64 a1_6, .int .i64 a1_7, .int .i64 a1_8] 25 (0, 0)) (by (with_reducible repeat (first | refine blk_drewN ?_ _ | refine blk_drew ?_ | refine blk_alloc ?_ _)); exact BK352.out) k_ hk⟩))
                  (case aO => exact (by (with_reducible repeat (first | apply Kd.R_alloc | apply Kd.R_drewN | apply Kd.R_drew)); exact HO357.out))
                  (case aS => exact (below_size (by repeat (first | (with_reducible first | exact HB.out | apply below_alloc | apply pw_below_drewN | apply below_drew1 | refine below_set ?_ GE352.out) | exact HB.out))))
                  (case aL => have := LMc14.out; omega)
                  intro v362 w40 ho hb hg hat
                  rw [← Ny361.out] at ho
                  have n0_ := Aside0.mk (blk_grown (g := gb352) (o := .cells #[.int .i64 a1_0, .int .i64 a1_1, .int .i64 a1_2, .int .i64 a1_3, .int .u64 a1_4, .int .u64 a1_5, .int .i64 a1_6, .int .i64 a1_7, .int .i64 a1_8] 25 (0, 0)) (by (with_reducible repeat (first | refine blk_drewN ?_ _ | refine blk_drew ?_ | refine blk_alloc ?_ _)); exact BK352.out) hg (Kd.R_away HO357.out (fun _ hk => hk.2)))
                  have n1_ := Aside0.mk (Kd.R_after (ok := (fun k_ => k_ ≠ gb352)) (by (with_reducible repeat (first | apply Kd.R_alloc | apply Kd.R_drewN | apply Kd.R_drew)); exact Kd.R_mono HO360.out (fun _ hk => ⟨hk.2, hk.1⟩)) hg hat)
                  have n2_ := Aside0.mk (hb)
                  have n3_ := Aside0.mk (ho)
                  clear BK352
                  clear HO360
                  clear HB
                  clear HO357
                  have BK352 := n0_
                  have HO360 := n1_
                  have HB := n2_
                  have HO363 := n3_
                  clear n0_ n1_ n2_ n3_
                  clear ho hb hg hat
                  refine hK.out _ _ ⟨(blk_cell BK352.out 0).trans rfl, (blk_cell BK352.out 1).trans rfl, (blk_cell BK352.out 2).trans rfl, (blk_cell BK352.out 3).trans rfl, (blk_cell BK352.out 4).trans rfl, (blk_cell BK352.out 5).trans rfl, (blk_cell BK352.out 6).trans rfl, (blk_cell BK352.out 7).trans rfl, (blk_cell BK352.out 8).trans rfl⟩ (fun hHeld => ?_)
                  clear hK K
                  refine norm_ (a' := ?_) ?_ ?_
                  rotate_left
                  · show Act.put _ (some 34) _ = _
                    simp only [Act.put, List.setIfInBounds_toArray, List.set_cons_zero, List.set_cons_succ, i64_w, i32_w]
                    rfl
                  refine pure_ (i := 5) (N := some 8) (v := ?_) (a' := ?_) #[true, true, true, true, true, true] rfl rfl (by kernel_rfl) (fun _ _ _ h => h) (Or.inl ⟨by rfl, ?_⟩) ?_ ?_
                  rotate_left
                  · intro w'
                    go_simp
                    with_reducible rfl
                  rotate_left
                  · simp only [Act.put, List.setIfInBounds_toArray, List.set_cons_zero, List.set_cons_succ, i64_w, i32_w]
                    rfl
                  refine done_ (by kernel_rfl) ?_
                  obtain ⟨Ao42, co42, eo42⟩ := Kd.R_slice HO363.out
                  subst eo42
                  try go_wp2_with (first | ((with_reducible refine gate_callee (f := 19) rfl ?_); refine goesL_ (some 37) rfl rfl Try.func19 (by kernel_rfl) rfl #[.slice A0 l0.length c0, .slice Ao42 y361.length co42] rfl (by (try simp only [List.map_toArray, List.map_cons, List.map_nil]); first | done | rfl | (simp only [List.length_drop, List.length_take]; rfl)) ?_; (with_reducible refine (entry_Same.calls kj4 _ _ l0 _ _ y361 false _ ?side1 ?side2 ?side3 ?side4 A15.out).mono ?_); (case side1 => repeat (first | exact (Kd.C_below HR0.out HB.out) | (with_reducible refine Kd.C_alloc ?_ _) | (with_reducible refine Kd.C_drewN ?_ _) | (with_reducible refine Kd.C_drew ?_))); (case side2 => exact HC0.out); (case side3 => repeat (first | exact (Kd.R_reads' HO363.out).2.2 | (with_reducible refine Kd.C_alloc ?_ _) | (with_reducible refine Kd.C_drewN ?_ _) | (with_reducible refine Kd.C_drew ?_))); (case side4 => exact (Kd.R_reads' HO363.out).2.1); rintro e w' ⟨rfl, ⟨nd, rfl⟩⟩; refine ⟨_, rfl, ?_⟩))
                  go_ret
                  exact ⟨by first | rfl | (simp [errW_none, errW_some] <;> rfl) | (simp [*, errW_none, errW_some] <;> rfl), by repeat (first | (with_reducible first | exact HB.out | apply below_alloc | apply pw_below_drewN | apply below_drew1 | refine below_set ?_ GE352.out) | exact HB.out)⟩
                · rw [if_neg c34] at H
                  have c34b0 : decide ((l0.length : Int) ≤ a2) = false := decide_eq_false c34
                  clear c34
                  obtain ⟨y365, hy365⟩ : ∃ y_ : List (S25), y_ = (([] : List (S25)) ++ l0) := ⟨_, rfl⟩
                  replace H : (if 0 ≤ a2 then (if a2 < (y365.length : Int) then ((entry_Same.f kj4 l0 (y365.set (a2 : Int).toNat (⟨a1_0, a1_1, a1_2, a1_3, a1_4, a1_5, a1_6, a1_7, a1_8⟩ : S25))).bind fun t369 => (if a2 < (l0.length : Int) then (some (t369 == (((rd_T25 l0 a2).f0) == a1_0 && (((rd_T25 l0 a2).f1) == a1_1 && (((rd_T25 l0 a2).f2) == a1_2 && (((rd_T25 l0 a2).f3) == a1_3 && (((rd_T25 l0 a2).f4) == a1_4 && (((rd_T25 l0 a2).f5) == a1_5 && (((rd_T25 l0 a2).f6) == a1_6 && (((rd_T25 l0 a2).f7) == a1_7 && (((rd_T25 l0 a2).f8) == a1_8))))))))))) else (none))) else (none)) else (none)) = some r := by first | (rw [hy365]; with_reducible exact H) | (have H2_ := (Option.bind_some _ _).symm.trans H; rw [hy365]; with_reducible exact H2_) | (have H2_ := (Option.bind_some _ _).symm.trans H; with_reducible exact H2_) | with_reducible exact H | (rw [hy365]; exact H) | exact H
                  have Ny365 := Aside0.mk hy365
                  clear hy365
                  by_cases c43 : 0 ≤ a2
                  · rw [if_pos c43] at H
                    have c43b0 : decide (0 ≤ a2) = true := decide_eq_true c43
                    clear c43
                    by_cases c44 : a2 < (y365.length : Int)
                    · rw [if_pos c44] at H
                      have c44b0 : decide (a2 < (y365.length : Int)) = true := decide_eq_true c44
                      clear c44
                      obtain ⟨y368, hy368⟩ : ∃ y_ : List (S25), y_ = (y365.set (a2 : Int).toNat (⟨a1_0, a1_1, a1_2, a1_3, a1_4, a1_5, a1_6, a1_7, a1_8⟩ : S25)) := ⟨_, rfl⟩
                      replace H : ((entry_Same.f kj4 l0 y368).bind fun t369 => (if a2 < (l0.length : Int) then (some (t369 == (((rd_T25 l0 a2).f0) == a1_0 && (((rd_T25 l0 a2).f1) == a1_1 && (((rd_T25 l0 a2).f2) == a1_2 && (((rd_T25 l0 a2).f3) == a1_3 && (((rd_T25 l0 a2).f4) == a1_4 && (((rd_T25 l0 a2).f5) == a1_5 && (((rd_T25 l0 a2).f6) == a1_6 && (((rd_T25 l0 a2).f7) == a1_7 && (((rd_T25 l0 a2).f8) == a1_8))))))))))) else (none))) = some r := by first | (rw [hy368]; with_reducible exact H) | (have H2_ := (Option.bind_some _ _).symm.trans H; rw [hy368]; with_reducible exact H2_) | (have H2_ := (Option.bind_some _ _).symm.trans H; with_reducible exact H2_) | with_reducible exact H | (rw [hy368]; exact H) | exact H
                      have Ny368 := Aside0.mk hy368
                      clear hy368
                      replace H := Option.bind_eq_some_iff.mp H
                      obtain ⟨t369, A460, H⟩ := H
                      replace H : (if a2 < (l0.length : Int) then (some (t369 == (((rd_T25 l0 a2).f0) == a1_0 && (((rd_T25 l0 a2).f1) == a1_1 && (((rd_T25 l0 a2).f2) == a1_2 && (((rd_T25 l0 a2).f3) == a1_3 && (((rd_T25 l0 a2).f4) == a1_4 && (((rd_T25 l0 a2).f5) == a1_5 && (((rd_T25 l0 a2).f6) == a1_6 && (((rd_T25 l0 a2).f7) == a1_7 && (((rd_T25 l0 a2).f8) == a1_8))))))))))) else (none)) = some r := H
                      have A46 := Aside0.mk A460
                      clear A460
                      by_cases c47 : a2 < (l0.length : Int)
                      · rw [if_pos c47] at H
                        have c47b0 : decide (a2 < (l0.length : Int)) = true := decide_eq_true c47
                        clear c47
                        obtain rfl := Option.some.inj H
                        try go_wp2
                        have n0_ := Aside0.mk (blk_drew BK352.out)
                        have n1_ := Aside0.mk (below_drew1 HB.out)
                        clear BK352
                        clear HB
                        have BK352 := n0_
                        have HB := n1_
                        clear n0_ n1_
                        refine start_ (n := 6) (S := fun w' => w'.cell? ⟨gb352, 0, none⟩ = some (.int .i64 a1_0) ∧ w'.cell? ⟨gb352, 1, none⟩ = some (.int .i64 a1_1) ∧ w'.cell? ⟨gb352, 2, none⟩ = some (.int .i64 a1_2) ∧ w'.cell? ⟨gb352, 3, none⟩ = some (.int .i64 a1_3) ∧ w'.cell? ⟨gb352, 4, none⟩ = some (.int .u64 a1_4) ∧ w'.cell? ⟨gb352, 5, none⟩ = some (.int .u64 a1_5) ∧ w'.cell? ⟨gb352, 6, none⟩ = some (.int .i64 a1_6) ∧ w'.cell? ⟨gb352, 7, none⟩ = some (.int .i64 a1_7) ∧ w'.cell? ⟨gb352, 8, none⟩ = some (.int .i64 a1_8)) (ds := []) #[false, false, false, false, false, false] (by kernel_rfl) rfl rfl ⟨(blk_cell BK352.out 0).trans rfl, (blk_cell BK352.out 1).trans rfl, (blk_cell BK352.out 2).trans rfl, (blk_cell BK352.out 3).trans rfl, (blk_cell BK352.out 4).trans rfl, (blk_cell BK352.out 5).trans rfl, (blk_cell BK352.out 6).trans rfl, (blk_cell BK352.out 7).trans rfl, (blk_cell BK352.out 8).trans rfl⟩ (fun hHeld => ?_)
                        generalize wc.drew = w48 at BK352 HB hHeld ⊢
                        refine pure_ (i := 0) (N := some 30) (v := ?_) (a' := ?_) #[true, false, false, false, false, false] rfl rfl (by kernel_rfl) (fun _ _ _ h => h) (Or.inl ⟨by rfl, ?_⟩) ?_ ?_
                        rotate_left
                        · intro w'
                          go_simp
                          with_reducible rfl
                        rotate_left
                        · simp only [Act.put, List.setIfInBounds_toArray, List.set_cons_zero, List.set_cons_succ, i64_w, i32_w]
                          rfl
                        refine take_ (i := 2) (N := some 32) (v := ?_) (a' := ?_) #[true, false, true, false, false, false] rfl rfl (by kernel_rfl) (fun _ _ _ h => h) (Or.inl ⟨by rfl, ?_⟩) hHeld ?_ ?_
                        rotate_left
                        · rintro w' ⟨s0, s1, s2, s3, s4, s5, s6, s7, s8⟩
                          go_simp
                          with_reducible rfl
                        rotate_left
                        · simp only [Act.put, List.setIfInBounds_toArray, List.set_cons_zero, List.set_cons_succ, i64_w, i32_w]
                          rfl
                        refine join_ (σ := Value × Value) 2 #[true, true, true, true, false, false] (fun s_ => [(31, s_.1), (33, s_.2)]) (fun s_ w' => (w'.cell? ⟨gb352, 0, none⟩ = some (.int .i64 a1_0) ∧ w'.cell? ⟨gb352, 1, none⟩ = some (.int .i64 a1_1) ∧ w'.cell? ⟨gb352, 2, none⟩ = some (.int .i64 a1_2) ∧ w'.cell? ⟨gb352, 3, none⟩ = some (.int .i64 a1_3) ∧ w'.cell? ⟨gb352, 4, none⟩ = some (.int .u64 a1_4) ∧ w'.cell? ⟨gb352, 5, none⟩ = some (.int .u64 a1_5) ∧ w'.cell? ⟨gb352, 6, none⟩ = some (.int .i64 a1_6) ∧ w'.cell? ⟨gb352, 7, none⟩ = some (.int .i64 a1_7) ∧ w'.cell? ⟨gb352, 8, none⟩ = some (.int .i64 a1_8)) ∧ (Kd.R k25 25 w' w.heap.size (fun k_ => some k_ ≠ (s_.2 : Value).ownBlock ∧ k_ ≠ gb352) s_.1 y355) ∧ (Kd.R k25 25 w' w.heap.size (fun k_ => some k_ ≠ (s_.1 : Value).ownBlock ∧ k_ ≠ gb352) s_.2 y358) ∧ (w'.heap[gb352]? = some (.cells #[.int .i64 a1_0, .int .i64 a1_1, .int .i64 a1_2, .int .i64 a1_3, .int .u64 a1_4, .int .u64 a1_5, .int .i64 a1_6, .int .i64 a1_7, .int .i64 a1_8] 25 (0, 0))) ∧ (Below w.heap.size w w')) ?_ ?_
                        rotate_left
                        · intro hCont
                          refine two_ (i := 1) (j := 3) (Ni := some 31) (Nj := some 33) #[true, true, true, false, false, false] #[true, false, true, true, false, false] rfl rfl rfl rfl (by kernel_rfl) (by decide) (by decide) (fun K hK => ?_) (fun K hK => ?_)
                          · skip
                            refine Kd.R_append_rows_step k25 (w0 := w) w.heap.size rfl (.const (.slice none 0 0)) (.tmp 30) 27 25 (.agg #[(.int .i64 0), (.int .i64 0), (.int .i64 0), (.int .i64 0), (.int .u64 0), (.int .u64 0), (.int .i64 0), (.int .i64 0), (.int .i64 0)]) 72 rfl Try.underlying27 info25 rfl (by decide) (by omega) (.slice none 0 0) ([] : List (S25)) l0 _ _ _ (fun k_ => k_ ≠ gb352) (fun _ => False) rfl rfl ?aO ?aR (fun _ _ h => h) (fun _ h => h.elim) ?aF ?aB ?aS ?aL ?_
                            (case aR => repeat (first | exact (Kd.C_below HR0.out HB.out) | (with_reducible refine Kd.C_alloc ?_ _) | (with_reducible refine Kd.C_drewN ?_ _) | (with_reducible refine Kd.C_drew ?_)))
                            (case aB => exact (by repeat (first | (with_reducible first | exact HB.out | apply below_alloc | apply pw_below_drewN | apply below_drew1 | refine below_set ?_ GE352.out) | exact HB.out)))
                            (case aF => exact (fun k_ hk => Kd.freshB (g := gb352) (o := .cells #[.int .i64 a1_0, .int .i64 a1_1, .int .i64 a1_2, .int .i64 a1_3, .int .u64 a1_4, .int .u64 a1_5, .int .i64 a1_6, .int .i64 a1_7, .int .i64 a1_8] 25 (0, 0)) (by (with_reducible repeat (first | refine blk_drewN ?_ _ | refine blk_drew ?_ | refine blk_alloc ?_ _)); exact BK352.out) k_ hk))
                            (case aO => exact ((Kd.R_nil _ _ _ _ (fun k_ => k_ ≠ gb352))))
                            (case aS => exact (below_size (by repeat (first | (with_reducible first | exact HB.out | apply below_alloc | apply pw_below_drewN | apply below_drew1 | refine below_set ?_ GE352.out) | exact HB.out))))
                            (case aL => have := LMc13.out; omega)
                            intro v356 w49 ho hb hg hat
                            rw [← Ny355.out] at ho
                            have n0_ := Aside0.mk (blk_grown (g := gb352) (o := .cells #[.int .i64 a1_0, .int .i64 a1_1, .int .i64 a1_2, .int .i64 a1_3, .int .u64 a1_4, .int .u64 a1_5, .int .i64 a1_6, .int .i64 a1_7, .int .i64 a1_8] 25 (0, 0)) (by (with_reducible repeat (first | refine blk_drewN ?_ _ | refine blk_drew ?_ | refine blk_alloc ?_ _)); exact BK352.out) hg (by simp [Value.ownBlock]))
                            have n1_ := Aside0.mk (hb)
                            have n2_ := Aside0.mk (ho)
                            clear BK352
                            clear HB
                            have BK352 := n0_
                            have HB := n1_
                            have HO357 := n2_
                            clear n0_ n1_ n2_
                            clear ho hb hg hat
                            refine hK.out _ _ ⟨(blk_cell BK352.out 0).trans rfl, (blk_cell BK352.out 1).trans rfl, (blk_cell BK352.out 2).trans rfl, (blk_cell BK352.out 3).trans rfl, (blk_cell BK352.out 4).trans rfl, (blk_cell BK352.out 5).trans rfl, (blk_cell BK352.out 6).trans rfl, (blk_cell BK352.out 7).trans rfl, (blk_cell BK352.out 8).trans rfl⟩ (fun hHeld => ?_)
                            clear hK K
                            refine norm_ (a' := ?_) ?_ ?_
                            rotate_left
                            · show Act.put _ (some 31) _ = _
                              simp only [Act.put, List.setIfInBounds_toArray, List.set_cons_zero, List.set_cons_succ, i64_w, i32_w]
                              rfl
                            refine one_ (i := 3) (N := some 33) #[true, true, true, true, false, false] rfl rfl (by kernel_rfl) (by decide) (fun K hK => ?_)
                            refine Kd.R_lit_step k25 _ 25 ?hg (N := 33) ?hd (xs := ([(⟨a1_0, a1_1, a1_2, a1_3, a1_4, a1_5, a1_6, a1_7, a1_8⟩ : S25)] : List (S25))) (inner := [.int .i64 a1_0, .int .i64 a1_1, .int .i64 a1_2, .int .i64 a1_3, .int .u64 a1_4, .int .u64 a1_5, .int .i64 a1_6, .int .i64 a1_7, .int .i64 a1_8]) (ok := fun _ => True) (okp := fun _ => True) ?hr ?hp (fun _ hk => hk) trivial (Below.refl _ _) (Nat.le_refl _) (by simp) ?_; (case hd => rfl); (case hg => rfl); (case hr => first | (go_simp; done) | (go_simp; rfl)); (case hp => exact (Reps.c9 (show Kd.M k25 _ _ _ (⟨a1_0, a1_1, a1_2, a1_3, a1_4, a1_5, a1_6, a1_7, a1_8⟩ : S25) [.int .i64 a1_0, .int .i64 a1_1, .int .i64 a1_2, .int .i64 a1_3, .int .u64 a1_4, .int .u64 a1_5, .int .i64 a1_6, .int .i64 a1_7, .int .i64 a1_8] from (k25_mkM _ _ _ (⟨a1_0, a1_1, a1_2, a1_3, a1_4, a1_5, a1_6, a1_7, a1_8⟩ : S25) )) (Reps.none _ _)))
                            intro v359 w50 ho51 hb hg_ hnew_
                            clear hg_ hnew_
                            (first | rw [← Ny358.out] at ho51 | (simp only [Int.reduceToNat] at ho51; rw [← Ny358.out] at ho51))
                            have n0_ := Aside0.mk (Kd.R_elder' (by (with_reducible repeat (first | apply Kd.R_alloc | apply Kd.R_drewN | apply Kd.R_drew)); exact HO357.out) (Kd.R_base ho51) hb)
                            have n1_ := Aside0.mk (Kd.R_lower (Kd.R_newB (Kd.R_new' ho51 (Kd.R_lt (by (with_reducible repeat (first | apply Kd.R_alloc | apply Kd.R_drewN | apply Kd.R_drew)); exact HO357.out))) (g := gb352) (o := .cells #[.int .i64 a1_0, .int .i64 a1_1, .int .i64 a1_2, .int .i64 a1_3, .int .u64 a1_4, .int .u64 a1_5, .int .i64 a1_6, .int .i64 a1_7, .int .i64 a1_8] 25 (0, 0)) (by (with_reducible repeat (first | refine blk_drewN ?_ _ | refine blk_drew ?_ | refine blk_alloc ?_ _)); exact BK352.out)) (below_size (by repeat (first | (with_reducible first | exact HB.out | apply below_alloc | apply pw_below_drewN | apply below_drew1 | refine below_set ?_ GE352.out) | exact HB.out))))
                            have n2_ := Aside0.mk (blk_below (g := gb352) (o := .cells #[.int .i64 a1_0, .int .i64 a1_1, .int .i64 a1_2, .int .i64 a1_3, .int .u64 a1_4, .int .u64 a1_5, .int .i64 a1_6, .int .i64 a1_7, .int .i64 a1_8] 25 (0, 0)) (by (with_reducible repeat (first | refine blk_drewN ?_ _ | refine blk_drew ?_ | refine blk_alloc ?_ _)); exact BK352.out) hb)
                            have n3_ := Aside0.mk (below_step (by repeat (first | (with_reducible first | exact HB.out | apply below_alloc | apply pw_below_drewN | apply below_drew1 | refine below_set ?_ GE352.out) | exact HB.out)) hb)
                            clear HO357
                            clear BK352
                            clear HB
                            have HO357 := n0_
                            have HO360 := n1_
                            have BK352 := n2_
                            have HB := n3_
                            clear n0_ n1_ n2_ n3_
                            clear hb ho51
                            refine hK.out _ _ ⟨(blk_cell BK352.out 0).trans rfl, (blk_cell BK352.out 1).trans rfl, (blk_cell BK352.out 2).trans rfl, (blk_cell BK352.out 3).trans rfl, (blk_cell BK352.out 4).trans rfl, (blk_cell BK352.out 5).trans rfl, (blk_cell BK352.out 6).trans rfl, (blk_cell BK352.out 7).trans rfl, (blk_cell BK352.out 8).trans rfl⟩ (fun hHeld => ?_)
                            clear hK K
                            refine norm_ (a' := ?_) ?_ ?_
                            rotate_left
                            · show Act.put _ (some 33) _ = _
                              simp only [Act.put, List.setIfInBounds_toArray, List.set_cons_zero, List.set_cons_succ, i64_w, i32_w]
                              rfl
                            exact norm_ (by simp only [putAll, Act.put, List.setIfInBounds_toArray, List.set_cons_zero, List.set_cons_succ]) (hCont (v356, v359) _ ⟨hHeld, (by (with_reducible repeat (first | apply Kd.R_alloc | apply Kd.R_drewN | apply Kd.R_drew)); exact Kd.R_mono HO357.out (fun _ hk => ⟨hk.2, hk.1⟩)), (by (with_reducible repeat (first | apply Kd.R_alloc | apply Kd.R_drewN | apply Kd.R_drew)); exact Kd.R_mono HO360.out (fun _ hk => ⟨hk.1.2, hk.2⟩)), (by (with_reducible repeat (first | refine blk_drewN ?_ _ | refine blk_drew ?_ | refine blk_alloc ?_ _)); exact BK352.out), (by repeat (first | (with_reducible first | exact HB.out | apply below_alloc | apply pw_below_drewN | apply below_drew1 | refine below_set ?_ GE352.out) | exact HB.out))⟩)
                          · skip
                            refine Kd.R_lit_step k25 _ 25 ?hg (N := 33) ?hd (xs := ([(⟨a1_0, a1_1, a1_2, a1_3, a1_4, a1_5, a1_6, a1_7, a1_8⟩ : S25)] : List (S25))) (inner := [.int .i64 a1_0, .int .i64 a1_1, .int .i64 a1_2, .int .i64 a1_3, .int .u64 a1_4, .int .u64 a1_5, .int .i64 a1_6, .int .i64 a1_7, .int .i64 a1_8]) (ok := fun _ => True) (okp := fun _ => True) ?hr ?hp (fun _ hk => hk) trivial (Below.refl _ _) (Nat.le_refl _) (by simp) ?_; (case hd => rfl); (case hg => rfl); (case hr => first | (go_simp; done) | (go_simp; rfl)); (case hp => exact (Reps.c9 (show Kd.M k25 _ _ _ (⟨a1_0, a1_1, a1_2, a1_3, a1_4, a1_5, a1_6, a1_7, a1_8⟩ : S25) [.int .i64 a1_0, .int .i64 a1_1, .int .i64 a1_2, .int .i64 a1_3, .int .u64 a1_4, .int .u64 a1_5, .int .i64 a1_6, .int .i64 a1_7, .int .i64 a1_8] from (k25_mkM _ _ _ (⟨a1_0, a1_1, a1_2, a1_3, a1_4, a1_5, a1_6, a1_7, a1_8⟩ : S25) )) (Reps.none _ _)))
                            intro v359 w49 ho50 hb hg_ hnew_
                            clear hg_ hnew_
                            (first | rw [← Ny358.out] at ho50 | (simp only [Int.reduceToNat] at ho50; rw [← Ny358.out] at ho50))
                            have n0_ := Aside0.mk (Kd.R_lower (Kd.R_newB ho50 (g := gb352) (o := .cells #[.int .i64 a1_0, .int .i64 a1_1, .int .i64 a1_2, .int .i64 a1_3, .int .u64 a1_4, .int .u64 a1_5, .int .i64 a1_6, .int .i64 a1_7, .int .i64 a1_8] 25 (0, 0)) (by (with_reducible repeat (first | refine blk_drewN ?_ _ | refine blk_drew ?_ | refine blk_alloc ?_ _)); exact BK352.out)) (below_size (by repeat (first | (with_reducible first | exact HB.out | apply below_alloc | apply pw_below_drewN | apply below_drew1 | refine below_set ?_ GE352.out) | exact HB.out))))
                            have n1_ := Aside0.mk (blk_below (g := gb352) (o := .cells #[.int .i64 a1_0, .int .i64 a1_1, .int .i64 a1_2, .int .i64 a1_3, .int .u64 a1_4, .int .u64 a1_5, .int .i64 a1_6, .int .i64 a1_7, .int .i64 a1_8] 25 (0, 0)) (by (with_reducible repeat (first | refine blk_drewN ?_ _ | refine blk_drew ?_ | refine blk_alloc ?_ _)); exact BK352.out) hb)
                            have n2_ := Aside0.mk (below_step (by repeat (first | (with_reducible first | exact HB.out | apply below_alloc | apply pw_below_drewN | apply below_drew1 | refine below_set ?_ GE352.out) | exact HB.out)) hb)
                            clear BK352
                            clear HB
                            have HO360 := n0_
                            have BK352 := n1_
                            have HB := n2_
                            clear n0_ n1_ n2_
                            clear hb ho50
                            refine hK.out _ _ ⟨(blk_cell BK352.out 0).trans rfl, (blk_cell BK352.out 1).trans rfl, (blk_cell BK352.out 2).trans rfl, (blk_cell BK352.out 3).trans rfl, (blk_cell BK352.out 4).trans rfl, (blk_cell BK352.out 5).trans rfl, (blk_cell BK352.out 6).trans rfl, (blk_cell BK352.out 7).trans rfl, (blk_cell BK352.out 8).trans rfl⟩ (fun hHeld => ?_)
                            clear hK K
                            refine norm_ (a' := ?_) ?_ ?_
                            rotate_left
                            · show Act.put _ (some 33) _ = _
                              simp only [Act.put, List.setIfInBounds_toArray, List.set_cons_zero, List.set_cons_succ, i64_w, i32_w]
                              rfl
                            refine one_ (i := 1) (N := some 31) #[true, true, true, true, false, false] rfl rfl (by kernel_rfl) (by decide) (fun K hK => ?_)
                            refine Kd.R_append_rows_step k25 (w0 := w) w.heap.size rfl (.const (.slice none 0 0)) (.tmp 30) 27 25 (.agg #[(.int .i64 0), (.int .i64 0), (.int .i64 0), (.int .i64 0), (.int .u64 0), (.int .u64 0), (.int .i64 0), (.int .i64 0), (.int .i64 0)]) 72 rfl Try.underlying27 info25 rfl (by decide) (by omega) (.slice none 0 0) ([] : List (S25)) l0 _ _ _ (fun k_ => some k_ ≠ (v359 : Value).ownBlock ∧ k_ ≠ gb352) (fun _ => False) rfl rfl ?aO ?aR (fun _ _ h => h) (fun _ h => h.elim) ?aF ?aB ?aS ?aL ?_
                            (case aR => repeat (first | exact (Kd.C_below HR0.out HB.out) | (with_reducible refine Kd.C_alloc ?_ _) | (with_reducible refine Kd.C_drewN ?_ _) | (with_reducible refine Kd.C_drew ?_)))
                            (case aB => exact (by repeat (first | (with_reducible first | exact HB.out | apply below_alloc | apply pw_below_drewN | apply below_drew1 | refine below_set ?_ GE352.out) | exact HB.out)))
                            (case aF => exact (fun k_ hk => ⟨Kd.fresh' (Kd.R_lt (by (with_reducible repeat (first | apply Kd.R_alloc | apply Kd.R_drewN | apply Kd.R_drew)); exact HO360.out)) k_ hk, Kd.freshB (g := gb352) (o := .cells #[.int .i64 a1_0, .int .i64 a1_1, .int .i64 a1_2, .int .i64 a1_3, .int .u64 a1_4, .int .u64 a1_5, .int .i64 a1_6, .int .i64 a1_7, .int .i64 a1_8] 25 (0, 0)) (by (with_reducible repeat (first | refine blk_drewN ?_ _ | refine blk_drew ?_ | refine blk_alloc ?_ _)); exact BK352.out) k_ hk⟩))
                            (case aO => exact ((Kd.R_nil _ _ _ _ (fun k_ => some k_ ≠ (v359 : Value).ownBlock ∧ k_ ≠ gb352))))
                            (case aS => exact (below_size (by repeat (first | (with_reducible first | exact HB.out | apply below_alloc | apply pw_below_drewN | apply below_drew1 | refine below_set ?_ GE352.out) | exact HB.out))))
                            (case aL => have := LMc13.out; omega)
                            intro v356 w51 ho hb hg hat
                            rw [← Ny355.out] at ho
                            have n0_ := Aside0.mk (blk_grown (g := gb352) (o := .cells #[.int .i64 a1_0, .int .i64 a1_1, .int .i64 a1_2, .int .i64 a1_3, .int .u64 a1_4, .int .u64 a1_5, .int .i64 a1_6, .int .i64 a1_7, .int .i64 a1_8] 25 (0, 0)) (by (with_reducible repeat (first | refine blk_drewN ?_ _ | refine blk_drew ?_ | refine blk_alloc ?_ _)); exact BK352.out) hg (by simp [Value.ownBlock]))
                            have n1_ := Aside0.mk (Kd.R_after (Kd.R_apart_nil (by (with_reducible repeat (first | apply Kd.R_alloc | apply Kd.R_drewN | apply Kd.R_drew)); exact HO360.out)) hg hat)
                            have n2_ := Aside0.mk (hb)
                            have n3_ := Aside0.mk (ho)
                            clear BK352
                            clear HO360
                            clear HB
                            have BK352 := n0_
                            have HO360 := n1_
                            have HB := n2_
                            have HO357 := n3_
                            clear n0_ n1_ n2_ n3_
                            clear ho hb hg hat
                            refine hK.out _ _ ⟨(blk_cell BK352.out 0).trans rfl, (blk_cell BK352.out 1).trans rfl, (blk_cell BK352.out 2).trans rfl, (blk_cell BK352.out 3).trans rfl, (blk_cell BK352.out 4).trans rfl, (blk_cell BK352.out 5).trans rfl, (blk_cell BK352.out 6).trans rfl, (blk_cell BK352.out 7).trans rfl, (blk_cell BK352.out 8).trans rfl⟩ (fun hHeld => ?_)
                            clear hK K
                            refine norm_ (a' := ?_) ?_ ?_
                            rotate_left
                            · show Act.put _ (some 31) _ = _
                              simp only [Act.put, List.setIfInBounds_toArray, List.set_cons_zero, List.set_cons_succ, i64_w, i32_w]
                              rfl
                            exact norm_ (by simp only [putAll, Act.put, List.setIfInBounds_toArray, List.set_cons_zero, List.set_cons_succ]) (hCont (v356, v359) _ ⟨hHeld, (by (with_reducible repeat (first | apply Kd.R_alloc | apply Kd.R_drewN | apply Kd.R_drew)); exact HO357.out), (by (with_reducible repeat (first | apply Kd.R_alloc | apply Kd.R_drewN | apply Kd.R_drew)); exact Kd.R_mono HO360.out (fun _ hk => ⟨hk.2, hk.1.2⟩)), (by (with_reducible repeat (first | refine blk_drewN ?_ _ | refine blk_drew ?_ | refine blk_alloc ?_ _)); exact BK352.out), (by repeat (first | (with_reducible first | exact HB.out | apply below_alloc | apply pw_below_drewN | apply below_drew1 | refine below_set ?_ GE352.out) | exact HB.out))⟩)
                        rintro ⟨v356, v359⟩ w52 ⟨hS_, h0_, h1_, h2_, h3_⟩
                        have n0_ : Aside0 (Kd.R k25 25 w52 w.heap.size (fun k_ => some k_ ≠ (v359 : Value).ownBlock ∧ k_ ≠ gb352) v356 y355) := ⟨h0_⟩
                        have n1_ : Aside0 (Kd.R k25 25 w52 w.heap.size (fun k_ => some k_ ≠ (v356 : Value).ownBlock ∧ k_ ≠ gb352) v359 y358) := ⟨h1_⟩
                        have n2_ : Aside0 (w52.heap[gb352]? = some (.cells #[.int .i64 a1_0, .int .i64 a1_1, .int .i64 a1_2, .int .i64 a1_3, .int .u64 a1_4, .int .u64 a1_5, .int .i64 a1_6, .int .i64 a1_7, .int .i64 a1_8] 25 (0, 0))) := ⟨h2_⟩
                        have n3_ : Aside0 (Below w.heap.size w w52) := ⟨h3_⟩
                        clear BK352
                        clear HB
                        clear h0_ h1_ h2_ h3_
                        have HO357 := n0_
                        have HO360 := n1_
                        have BK352 := n2_
                        have HB := n3_
                        clear n0_ n1_ n2_ n3_
                        have hHeld : w52.cell? ⟨gb352, 0, none⟩ = some (.int .i64 a1_0) ∧ w52.cell? ⟨gb352, 1, none⟩ = some (.int .i64 a1_1) ∧ w52.cell? ⟨gb352, 2, none⟩ = some (.int .i64 a1_2) ∧ w52.cell? ⟨gb352, 3, none⟩ = some (.int .i64 a1_3) ∧ w52.cell? ⟨gb352, 4, none⟩ = some (.int .u64 a1_4) ∧ w52.cell? ⟨gb352, 5, none⟩ = some (.int .u64 a1_5) ∧ w52.cell? ⟨gb352, 6, none⟩ = some (.int .i64 a1_6) ∧ w52.cell? ⟨gb352, 7, none⟩ = some (.int .i64 a1_7) ∧ w52.cell? ⟨gb352, 8, none⟩ = some (.int .i64 a1_8) := hS_
                        obtain ⟨Ao54, co54, eo54⟩ := Kd.R_slice HO360.out
                        (first | subst eo54 | (injection eo54 with f1_ f2_ f3_; have f4_ := f1_.symm; have f5_ := f3_.symm; clear f1_ f2_ f3_; subst f4_; subst f5_))
                        refine norm_ (a' := ?_) ?_ ?_
                        rotate_left
                        · simp only [putAll, Act.put, List.setIfInBounds_toArray, List.set_cons_zero, List.set_cons_succ]
                          rfl
                        refine one_ (i := 4) (N := some 34) #[true, true, true, true, true, false] rfl rfl (by kernel_rfl) (by decide) (fun K hK => ?_)
                        refine Kd.R_append_rows_step k25 (w0 := w) w.heap.size (by rfl) (.tmp 31) (.tmp 33) 27 25 (.agg #[(.int .i64 0), (.int .i64 0), (.int .i64 0), (.int .i64 0), (.int .u64 0), (.int .u64 0), (.int .i64 0), (.int .i64 0), (.int .i64 0)]) 72 rfl Try.underlying27 info25 rfl (by decide) (by omega) v356 y355 y358 _ _ _ (fun k_ => some k_ ≠ (.slice Ao54 y358.length co54 : Value).ownBlock ∧ k_ ≠ gb352) (fun _ => False) rfl rfl ?aO ?aR (fun _ _ h => h) (fun _ h => h.elim) ?aF ?aB ?aS ?aL ?_
                        (case aR => repeat (first | exact (Kd.R_reads' HO360.out).2.2 | (with_reducible refine Kd.C_alloc ?_ _) | (with_reducible refine Kd.C_drewN ?_ _) | (with_reducible refine Kd.C_drew ?_)))
                        (case aB => exact (by repeat (first | (with_reducible first | exact HB.out | apply below_alloc | apply pw_below_drewN | apply below_drew1 | refine below_set ?_ GE352.out) | exact HB.out)))
                        (case aF => exact (fun k_ hk => ⟨Kd.fresh' (Kd.R_lt (by (with_reducible repeat (first | apply Kd.R_alloc | apply Kd.R_drewN | apply Kd.R_drew)); exact HO360.out)) k_ hk, Kd.freshB (g := gb352) (o := .cells #[.int .i64 a1_0, .int .i64 a1_1, .int .i64 a1_2, .int .i64 a1_3, .int .u64 a1_4, .int .u64 a1_5, .int .i64 a1_6, .int .i64 a1_7, .int .i64 a1_8] 25 (0, 0)) (by (with_reducible repeat (first | refine blk_drewN ?_ _ | refine blk_drew ?_ | refine blk_alloc ?_ _)); exact BK352.out) k_ hk⟩))
                        (case aO => exact (by (with_reducible repeat (first | apply Kd.R_alloc | apply Kd.R_drewN | apply Kd.R_drew)); exact HO357.out))
                        (case aS => exact (below_size (by repeat (first | (with_reducible first | exact HB.out | apply below_alloc | apply pw_below_drewN | apply below_drew1 | refine below_set ?_ GE352.out) | exact HB.out))))
                        (case aL => have := LMc14.out; omega)
                        intro v362 w53 ho hb hg hat
                        rw [← Ny361.out] at ho
                        have n0_ := Aside0.mk (blk_grown (g := gb352) (o := .cells #[.int .i64 a1_0, .int .i64 a1_1, .int .i64 a1_2, .int .i64 a1_3, .int .u64 a1_4, .int .u64 a1_5, .int .i64 a1_6, .int .i64 a1_7, .int .i64 a1_8] 25 (0, 0)) (by (with_reducible repeat (first | refine blk_drewN ?_ _ | refine blk_drew ?_ | refine blk_alloc ?_ _)); exact BK352.out) hg (Kd.R_away HO357.out (fun _ hk => hk.2)))
                        have n1_ := Aside0.mk (Kd.R_after (ok := (fun k_ => k_ ≠ gb352)) (by (with_reducible repeat (first | apply Kd.R_alloc | apply Kd.R_drewN | apply Kd.R_drew)); exact Kd.R_mono HO360.out (fun _ hk => ⟨hk.2, hk.1⟩)) hg hat)
                        have n2_ := Aside0.mk (hb)
                        have n3_ := Aside0.mk (ho)
                        clear BK352
                        clear HO360
                        clear HB
                        clear HO357
                        have BK352 := n0_
                        have HO360 := n1_
                        have HB := n2_
                        have HO363 := n3_
                        clear n0_ n1_ n2_ n3_
                        clear ho hb hg hat
                        refine hK.out _ _ ⟨(blk_cell BK352.out 0).trans rfl, (blk_cell BK352.out 1).trans rfl, (blk_cell BK352.out 2).trans rfl, (blk_cell BK352.out 3).trans rfl, (blk_cell BK352.out 4).trans rfl, (blk_cell BK352.out 5).trans rfl, (blk_cell BK352.out 6).trans rfl, (blk_cell BK352.out 7).trans rfl, (blk_cell BK352.out 8).trans rfl⟩ (fun hHeld => ?_)
                        clear hK K
                        refine norm_ (a' := ?_) ?_ ?_
                        rotate_left
                        · show Act.put _ (some 34) _ = _
                          simp only [Act.put, List.setIfInBounds_toArray, List.set_cons_zero, List.set_cons_succ, i64_w, i32_w]
                          rfl
                        refine pure_ (i := 5) (N := some 8) (v := ?_) (a' := ?_) #[true, true, true, true, true, true] rfl rfl (by kernel_rfl) (fun _ _ _ h => h) (Or.inl ⟨by rfl, ?_⟩) ?_ ?_
                        rotate_left
                        · intro w'
                          go_simp
                          with_reducible rfl
                        rotate_left
                        · simp only [Act.put, List.setIfInBounds_toArray, List.set_cons_zero, List.set_cons_succ, i64_w, i32_w]
                          rfl
                        refine done_ (by kernel_rfl) ?_
                        obtain ⟨Ao55, co55, eo55⟩ := Kd.R_slice HO363.out
                        subst eo55
                        try go_wp2_with (first | ((with_reducible refine gate_callee (f := 19) rfl ?_); refine goesL_ (some 37) rfl rfl Try.func19 (by kernel_rfl) rfl #[.slice A0 l0.length c0, .slice Ao55 y361.length co55] rfl (by (try simp only [List.map_toArray, List.map_cons, List.map_nil]); first | done | rfl | (simp only [List.length_drop, List.length_take]; rfl)) ?_; (with_reducible refine (entry_Same.calls kj4 _ _ l0 _ _ y361 false _ ?side1 ?side2 ?side3 ?side4 A15.out).mono ?_); (case side1 => repeat (first | exact (Kd.C_below HR0.out HB.out) | (with_reducible refine Kd.C_alloc ?_ _) | (with_reducible refine Kd.C_drewN ?_ _) | (with_reducible refine Kd.C_drew ?_))); (case side2 => exact HC0.out); (case side3 => repeat (first | exact (Kd.R_reads' HO363.out).2.2 | (with_reducible refine Kd.C_alloc ?_ _) | (with_reducible refine Kd.C_drewN ?_ _) | (with_reducible refine Kd.C_drew ?_))); (case side4 => exact (Kd.R_reads' HO363.out).2.1); rintro e w' ⟨rfl, ⟨nd, rfl⟩⟩; refine ⟨_, rfl, ?_⟩; (try (rw [drewN_self w53]; generalize hq_ : World.drewN w53 _ = w53; have n0_ : Aside0 (Kd.R k25 25 w53 w.heap.size (fun k_ => some k_ ≠ (.slice Ao55 y361.length co55 : Value).ownBlock ∧ k_ ≠ gb352) (.slice Ao54 y358.length co54) y358) := ⟨by rw [← hq_]; exact (by (with_reducible repeat (first | apply Kd.R_alloc | apply Kd.R_drewN | apply Kd.R_drew)); exact Kd.R_mono HO360.out (fun _ hk => ⟨hk.2, hk.1⟩))⟩; have n1_ : Aside0 (Kd.R k25 25 w53 w.heap.size (fun k_ => some k_ ≠ (.slice Ao54 y358.length co54 : Value).ownBlock ∧ k_ ≠ gb352) (.slice Ao55 y361.length co55) y361) := ⟨by rw [← hq_]; exact (by (with_reducible repeat (first | apply Kd.R_alloc | apply Kd.R_drewN | apply Kd.R_drew)); exact HO363.out)⟩; have n2_ : Aside0 (w53.heap[gb352]? = some (.cells #[.int .i64 a1_0, .int .i64 a1_1, .int .i64 a1_2, .int .i64 a1_3, .int .u64 a1_4, .int .u64 a1_5, .int .i64 a1_6, .int .i64 a1_7, .int .i64 a1_8] 25 (0, 0))) := ⟨by rw [← hq_]; exact (by (with_reducible repeat (first | refine blk_drewN ?_ _ | refine blk_drew ?_ | refine blk_alloc ?_ _)); exact BK352.out)⟩; have n3_ : Aside0 (Below w.heap.size w w53) := ⟨by rw [← hq_]; exact (by repeat (first | (with_reducible first | exact HB.out | apply below_alloc | apply pw_below_drewN | apply below_drew1 | refine below_set ?_ GE352.out) | exact HB.out))⟩; clear HO360 HO363 BK352 HB hq_; have HO360 := n0_; have HO363 := n1_; have BK352 := n2_; have HB := n3_; clear n0_ n1_ n2_ n3_))) | ((with_reducible refine gate_builtin (b := .append) (xs := #[.const (.slice none 0 0), .tmp 46]) rfl ?_); (try (refine gate_guard (by rfl) ?_; dsimp only)); at_builtin; refine Kd.R_append_rows k25 (w0 := w) w.heap.size rfl (.const (.slice none 0 0)) (.tmp 46) 27 25 (.agg #[(.int .i64 0), (.int .i64 0), (.int .i64 0), (.int .i64 0), (.int .u64 0), (.int .u64 0), (.int .i64 0), (.int .i64 0), (.int .i64 0)]) 72 rfl Try.underlying27 info25 rfl (by decide) (by omega) (.slice none 0 0) ([] : List (S25)) l0 _ _ _ (fun k_ => some k_ ≠ (.slice Ao54 y358.length co54 : Value).ownBlock ∧ some k_ ≠ (.slice Ao55 y361.length co55 : Value).ownBlock ∧ k_ ≠ gb352) (fun _ => False) rfl rfl ?aO ?aR (fun _ _ h => h) (fun _ h => h.elim) ?aF ?aB ?aS ?aL ?_; (case aR => repeat (first | exact (Kd.C_below HR0.out HB.out) | (with_reducible refine Kd.C_alloc ?_ _) | (with_reducible refine Kd.C_drewN ?_ _) | (with_reducible refine Kd.C_drew ?_))); (case aB => exact (by repeat (first | (with_reducible first | exact HB.out | apply below_alloc | apply pw_below_drewN | apply below_drew1 | refine below_set ?_ GE352.out) | exact HB.out))); (case aF => exact (fun k_ hk => ⟨Kd.fresh' (Kd.R_lt (by (with_reducible repeat (first | apply Kd.R_alloc | apply Kd.R_drewN | apply Kd.R_drew)); exact HO360.out)) k_ hk, Kd.fresh' (Kd.R_lt (by (with_reducible repeat (first | apply Kd.R_alloc | apply Kd.R_drewN | apply Kd.R_drew)); exact HO363.out)) k_ hk, Kd.freshB (g := gb352) (o := .cells #[.int .i64 a1_0, .int .i64 a1_1, .int .i64 a1_2, .int .i64 a1_3, .int .u64 a1_4, .int .u64 a1_5, .int .i64 a1_6, .int .i64 a1_7, .int .i64 a1_8] 25 (0, 0)) (by (with_reducible repeat (first | refine blk_drewN ?_ _ | refine blk_drew ?_ | refine blk_alloc ?_ _)); exact BK352.out) k_ hk⟩)); (case aO => exact ((Kd.R_nil _ _ _ _ (fun k_ => some k_ ≠ (.slice Ao54 y358.length co54 : Value).ownBlock ∧ some k_ ≠ (.slice Ao55 y361.length co55 : Value).ownBlock ∧ k_ ≠ gb352)))); (case aS => exact (below_size (by repeat (first | (with_reducible first | exact HB.out | apply below_alloc | apply pw_below_drewN | apply below_drew1 | refine below_set ?_ GE352.out) | exact HB.out)))); (case aL => have := LMc13.out; omega); intro v366 w56 ho hb hg hat; rw [← Ny365.out] at ho; have n0_ := Aside0.mk (blk_grown (g := gb352) (o := .cells #[.int .i64 a1_0, .int .i64 a1_1, .int .i64 a1_2, .int .i64 a1_3, .int .u64 a1_4, .int .u64 a1_5, .int .i64 a1_6, .int .i64 a1_7, .int .i64 a1_8] 25 (0, 0)) (by (with_reducible repeat (first | refine blk_drewN ?_ _ | refine blk_drew ?_ | refine blk_alloc ?_ _)); exact BK352.out) hg (by simp [Value.ownBlock])); have n1_ := Aside0.mk (Kd.R_after (Kd.R_apart_nil (by (with_reducible repeat (first | apply Kd.R_alloc | apply Kd.R_drewN | apply Kd.R_drew)); exact HO360.out)) hg hat); have n2_ := Aside0.mk (Kd.R_after (Kd.R_apart_nil (by (with_reducible repeat (first | apply Kd.R_alloc | apply Kd.R_drewN | apply Kd.R_drew)); exact HO363.out)) hg hat); have n3_ := Aside0.mk (hb); have n4_ := Aside0.mk (ho); clear BK352; clear HO360; clear HO363; clear HB; have BK352 := n0_; have HO360 := n1_; have HO363 := n2_; have HB := n3_; have HO367 := n4_; clear n0_ n1_ n2_ n3_ n4_; clear ho hb hg hat; have hcz57_0 : w56.cell? ⟨gb352, 0, none⟩ = some (.int .i64 a1_0) := (blk_cell BK352.out 0).trans rfl; have hcz57_1 : w56.cell? ⟨gb352, 1, none⟩ = some (.int .i64 a1_1) := (blk_cell BK352.out 1).trans rfl; have hcz57_2 : w56.cell? ⟨gb352, 2, none⟩ = some (.int .i64 a1_2) := (blk_cell BK352.out 2).trans rfl; have hcz57_3 : w56.cell? ⟨gb352, 3, none⟩ = some (.int .i64 a1_3) := (blk_cell BK352.out 3).trans rfl; have hcz57_4 : w56.cell? ⟨gb352, 4, none⟩ = some (.int .u64 a1_4) := (blk_cell BK352.out 4).trans rfl; have hcz57_5 : w56.cell? ⟨gb352, 5, none⟩ = some (.int .u64 a1_5) := (blk_cell BK352.out 5).trans rfl; have hcz57_6 : w56.cell? ⟨gb352, 6, none⟩ = some (.int .i64 a1_6) := (blk_cell BK352.out 6).trans rfl; have hcz57_7 : w56.cell? ⟨gb352, 7, none⟩ = some (.int .i64 a1_7) := (blk_cell BK352.out 7).trans rfl; have hcz57_8 : w56.cell? ⟨gb352, 8, none⟩ = some (.int .i64 a1_8) := (blk_cell BK352.out 8).trans rfl; have hfz57_0 := blk_frozen BK352.out 0; have hfz57_1 := blk_frozen BK352.out 1; have hfz57_2 := blk_frozen BK352.out 2; have hfz57_3 := blk_frozen BK352.out 3; have hfz57_4 := blk_frozen BK352.out 4; have hfz57_5 := blk_frozen BK352.out 5; have hfz57_6 := blk_frozen BK352.out 6; have hfz57_7 := blk_frozen BK352.out 7; have hfz57_8 := blk_frozen BK352.out 8; have p45 : 0 ≤ (a2 : Int) := of_decide_eq_true (by first | (with_reducible assumption) | assumption); have q45 : (a2 : Int) < ((y365.length : Int) : Int) := of_decide_eq_true (by first | (with_reducible assumption) | assumption); obtain ⟨go45, co45, eo45, gb45, gl45, cl45, HG45⟩ := Kd.R_form HO367.out (by omega); (first | cases eo45 | (injection eo45 with ea_ en_ ec_; (first | subst ea_ | (injection ea_ with ea_; subst ea_)); subst ec_; clear en_)); have GB45 := Aside0.mk gb45; have GG45 := Aside0.mk HG45; clear gb45 gl45 HG45; obtain ⟨ce45, hcl45, hM45, hcc45, hfr45⟩ := Kd.R_elem HO367.out z25 (a2 : Int) p45 q45; obtain rfl := k25_openM hM45; have hx45_0 : w56.cell? ⟨go45, (a2 : Int).toNat * 9, none⟩ = some (.int .i64 ((rd_T25 y365 a2).f0)) := hcc45 0 _ rfl; have hx45_1 : w56.cell? ⟨go45, (a2 : Int).toNat * 9 + 1, none⟩ = some (.int .i64 ((rd_T25 y365 a2).f1)) := hcc45 1 _ rfl; have hx45_2 : w56.cell? ⟨go45, (a2 : Int).toNat * 9 + 2, none⟩ = some (.int .i64 ((rd_T25 y365 a2).f2)) := hcc45 2 _ rfl; have hx45_3 : w56.cell? ⟨go45, (a2 : Int).toNat * 9 + 3, none⟩ = some (.int .i64 ((rd_T25 y365 a2).f3)) := hcc45 3 _ rfl; have hx45_4 : w56.cell? ⟨go45, (a2 : Int).toNat * 9 + 4, none⟩ = some (.int .u64 ((rd_T25 y365 a2).f4)) := hcc45 4 _ rfl; have hx45_5 : w56.cell? ⟨go45, (a2 : Int).toNat * 9 + 5, none⟩ = some (.int .u64 ((rd_T25 y365 a2).f5)) := hcc45 5 _ rfl; have hx45_6 : w56.cell? ⟨go45, (a2 : Int).toNat * 9 + 6, none⟩ = some (.int .i64 ((rd_T25 y365 a2).f6)) := hcc45 6 _ rfl; have hx45_7 : w56.cell? ⟨go45, (a2 : Int).toNat * 9 + 7, none⟩ = some (.int .i64 ((rd_T25 y365 a2).f7)) := hcc45 7 _ rfl; have hx45_8 : w56.cell? ⟨go45, (a2 : Int).toNat * 9 + 8, none⟩ = some (.int .i64 ((rd_T25 y365 a2).f8)) := hcc45 8 _ rfl; have hf45_0 : w56.frozen? ⟨go45, (a2 : Int).toNat * 9, none⟩ = false := hfr45 0; have hf45_1 : w56.frozen? ⟨go45, (a2 : Int).toNat * 9 + 1, none⟩ = false := hfr45 1; have hf45_2 : w56.frozen? ⟨go45, (a2 : Int).toNat * 9 + 2, none⟩ = false := hfr45 2; have hf45_3 : w56.frozen? ⟨go45, (a2 : Int).toNat * 9 + 3, none⟩ = false := hfr45 3; have hf45_4 : w56.frozen? ⟨go45, (a2 : Int).toNat * 9 + 4, none⟩ = false := hfr45 4; have hf45_5 : w56.frozen? ⟨go45, (a2 : Int).toNat * 9 + 5, none⟩ = false := hfr45 5; have hf45_6 : w56.frozen? ⟨go45, (a2 : Int).toNat * 9 + 6, none⟩ = false := hfr45 6; have hf45_7 : w56.frozen? ⟨go45, (a2 : Int).toNat * 9 + 7, none⟩ = false := hfr45 7; have hf45_8 : w56.frozen? ⟨go45, (a2 : Int).toNat * 9 + 8, none⟩ = false := hfr45 8; clear hcl45 hcc45 hfr45 hM45; replace p45 := eq_true p45; replace q45 := eq_true q45; have HX58 := Aside0.mk (show Kd.R k25 25 w56 w.heap.size (fun k_ => some k_ ≠ (.slice Ao54 y358.length co54 : Value).ownBlock ∧ some k_ ≠ (.slice Ao55 y361.length co55 : Value).ownBlock ∧ k_ ≠ gb352) (.slice (some ⟨go45, 0, none⟩) y365.length co45) y365 from (by (with_reducible repeat (first | apply Kd.R_alloc | apply Kd.R_drewN | apply Kd.R_drew)); exact HO367.out)); obtain ⟨ce58, hcl58, hM58, hcc58, hfr58⟩ := Kd.R_elem HX58.out z25 (a2 : Int) (of_decide_eq_true (by first | (with_reducible assumption) | assumption)) (by have h_ : (a2 : Int) < ((y365.length : Int) : Int) := of_decide_eq_true (by first | (with_reducible assumption) | assumption); first | exact h_ | (have e_ := (Kd.R_reads' HO367.out).1; omega) | simpa using h_); obtain rfl := k25_openM hM58; have HP58 := Kd.R_seg HX58.out (a2 : Int) (of_decide_eq_true (by first | (with_reducible assumption) | assumption)) (by have h_ : (a2 : Int) < ((y365.length : Int) : Int) := of_decide_eq_true (by first | (with_reducible assumption) | assumption); first | exact h_ | (have e_ := (Kd.R_reads' HO367.out).1; omega) | simpa using h_) (seg := [.int .i64 a1_0, .int .i64 a1_1, .int .i64 a1_2, .int .i64 a1_3, .int .u64 a1_4, .int .u64 a1_5, .int .i64 a1_6, .int .i64 a1_7, .int .i64 a1_8]) (j := 0) hcl58 hcc58 (show 9 ≤ 9 from by decide) (x' := (⟨a1_0, a1_1, a1_2, a1_3, a1_4, a1_5, a1_6, a1_7, a1_8⟩ : S25)) (k25_mkM _ _ _ (⟨a1_0, a1_1, a1_2, a1_3, a1_4, a1_5, a1_6, a1_7, a1_8⟩ : S25) ) (fun _ hk => hk); have hx58_0 := hcc58 0 _ rfl; (try simp only [show (k25).sz = 9 from rfl, Nat.mul_one, Nat.add_zero] at hx58_0); have hf58_0 := hfr58 0; (try simp only [show (k25).sz = 9 from rfl, Nat.mul_one, Nat.add_zero] at hf58_0); have hx58_1 := hcc58 1 _ rfl; (try simp only [show (k25).sz = 9 from rfl, Nat.mul_one, Nat.add_zero] at hx58_1); have hf58_1 := hfr58 1; (try simp only [show (k25).sz = 9 from rfl, Nat.mul_one, Nat.add_zero] at hf58_1); have hx58_2 := hcc58 2 _ rfl; (try simp only [show (k25).sz = 9 from rfl, Nat.mul_one, Nat.add_zero] at hx58_2); have hf58_2 := hfr58 2; (try simp only [show (k25).sz = 9 from rfl, Nat.mul_one, Nat.add_zero] at hf58_2); have hx58_3 := hcc58 3 _ rfl; (try simp only [show (k25).sz = 9 from rfl, Nat.mul_one, Nat.add_zero] at hx58_3); have hf58_3 := hfr58 3; (try simp only [show (k25).sz = 9 from rfl, Nat.mul_one, Nat.add_zero] at hf58_3); have hx58_4 := hcc58 4 _ rfl; (try simp only [show (k25).sz = 9 from rfl, Nat.mul_one, Nat.add_zero] at hx58_4); have hf58_4 := hfr58 4; (try simp only [show (k25).sz = 9 from rfl, Nat.mul_one, Nat.add_zero] at hf58_4); have hx58_5 := hcc58 5 _ rfl; (try simp only [show (k25).sz = 9 from rfl, Nat.mul_one, Nat.add_zero] at hx58_5); have hf58_5 := hfr58 5; (try simp only [show (k25).sz = 9 from rfl, Nat.mul_one, Nat.add_zero] at hf58_5); have hx58_6 := hcc58 6 _ rfl; (try simp only [show (k25).sz = 9 from rfl, Nat.mul_one, Nat.add_zero] at hx58_6); have hf58_6 := hfr58 6; (try simp only [show (k25).sz = 9 from rfl, Nat.mul_one, Nat.add_zero] at hf58_6); have hx58_7 := hcc58 7 _ rfl; (try simp only [show (k25).sz = 9 from rfl, Nat.mul_one, Nat.add_zero] at hx58_7); have hf58_7 := hfr58 7; (try simp only [show (k25).sz = 9 from rfl, Nat.mul_one, Nat.add_zero] at hf58_7); have hx58_8 := hcc58 8 _ rfl; (try simp only [show (k25).sz = 9 from rfl, Nat.mul_one, Nat.add_zero] at hx58_8); have hf58_8 := hfr58 8; (try simp only [show (k25).sz = 9 from rfl, Nat.mul_one, Nat.add_zero] at hf58_8); clear hcl58 hcc58 hfr58 hM58))
                        obtain ⟨w59, hw⟩ : ∃ w59, w59 = (((((((((w56.setCell ⟨go45, (a2 : Int).toNat * 9, none⟩ (.int .i64 a1_0)).setCell ⟨go45, (a2 : Int).toNat * 9 + 1, none⟩ (.int .i64 a1_1)).setCell ⟨go45, (a2 : Int).toNat * 9 + 2, none⟩ (.int .i64 a1_2)).setCell ⟨go45, (a2 : Int).toNat * 9 + 3, none⟩ (.int .i64 a1_3)).setCell ⟨go45, (a2 : Int).toNat * 9 + 4, none⟩ (.int .u64 a1_4)).setCell ⟨go45, (a2 : Int).toNat * 9 + 5, none⟩ (.int .u64 a1_5)).setCell ⟨go45, (a2 : Int).toNat * 9 + 6, none⟩ (.int .i64 a1_6)).setCell ⟨go45, (a2 : Int).toNat * 9 + 7, none⟩ (.int .i64 a1_7)).setCell ⟨go45, (a2 : Int).toNat * 9 + 8, none⟩ (.int .i64 a1_8)) := ⟨_, rfl⟩
                        rw [← hw]
                        have hg : w56.grownBy w59 (some go45) := (by rw [hw]; exact HP58.2)
                        have hp_ : Kd.R k25 25 w59 w.heap.size (fun k_ => some k_ ≠ (.slice Ao54 y358.length co54 : Value).ownBlock ∧ some k_ ≠ (.slice Ao55 y361.length co55 : Value).ownBlock ∧ k_ ≠ gb352) (.slice (some ⟨go45, 0, none⟩) y365.length co45) y368 := (by rw [hw, Ny368.out]; exact HP58.1)
                        clear HP58
                        have n0_ := Aside0.mk (blk_grown (g := gb352) (o := .cells #[.int .i64 a1_0, .int .i64 a1_1, .int .i64 a1_2, .int .i64 a1_3, .int .u64 a1_4, .int .u64 a1_5, .int .i64 a1_6, .int .i64 a1_7, .int .i64 a1_8] 25 (0, 0)) (by (with_reducible repeat (first | refine blk_drewN ?_ _ | refine blk_drew ?_ | refine blk_alloc ?_ _)); exact BK352.out) hg (Kd.R_away HO367.out (fun _ hk => hk.2.2)))
                        have n1_ := Aside0.mk (Kd.R_after (v := (.slice (some ⟨go45, 0, none⟩) y365.length co45)) (v1 := (.slice (some ⟨go45, 0, none⟩) y365.length co45)) (ok := (fun k_ => some k_ ≠ (.slice Ao55 y361.length co55 : Value).ownBlock ∧ k_ ≠ gb352)) (by (with_reducible repeat (first | apply Kd.R_alloc | apply Kd.R_drewN | apply Kd.R_drew)); exact Kd.R_mono HO360.out (fun _ hk => by first | exact ⟨⟨hk.1.2, hk.1.1⟩, hk.2⟩ | exact hk)) hg (.inl rfl))
                        have n2_ := Aside0.mk (Kd.R_after (v := (.slice (some ⟨go45, 0, none⟩) y365.length co45)) (v1 := (.slice (some ⟨go45, 0, none⟩) y365.length co45)) (ok := (fun k_ => some k_ ≠ (.slice Ao54 y358.length co54 : Value).ownBlock ∧ k_ ≠ gb352)) (by (with_reducible repeat (first | apply Kd.R_alloc | apply Kd.R_drewN | apply Kd.R_drew)); exact HO363.out) hg (.inl rfl))
                        have n3_ := Aside0.mk (hp_)
                        have n4_ := Aside0.mk ((by rw [hw]; exact below_set (below_set (below_set (below_set (below_set (below_set (below_set (below_set (below_set (HB.out) GB45.out) GB45.out) GB45.out) GB45.out) GB45.out) GB45.out) GB45.out) GB45.out) GB45.out : Below w.heap.size w w59))
                        clear BK352
                        clear HO360
                        clear HO363
                        clear HO367
                        clear HB
                        have BK352 := n0_
                        have HO360 := n1_
                        have HO363 := n2_
                        have HO367 := n3_
                        have HB := n4_
                        clear n0_ n1_ n2_ n3_ n4_
                        clear hg hw hp_
                        have n0_ := Aside0.mk (Kd.R_drew HO360.out)
                        have n1_ := Aside0.mk (Kd.R_drew HO363.out)
                        have n2_ := Aside0.mk (Kd.R_drew HO367.out)
                        have n3_ := Aside0.mk (blk_drew BK352.out)
                        have n4_ := Aside0.mk (below_drew1 HB.out)
                        clear HO360
                        clear HO363
                        clear HO367
                        clear BK352
                        clear HB
                        have HO360 := n0_
                        have HO363 := n1_
                        have HO367 := n2_
                        have BK352 := n3_
                        have HB := n4_
                        clear n0_ n1_ n2_ n3_ n4_
                        have p370 : 0 ≤ (a2 : Int) := of_decide_eq_true (by first | (with_reducible assumption) | assumption)
                        have q370 : a2 < (l0.length : Int) := of_decide_eq_true (by first | (with_reducible assumption) | assumption)
                        obtain ⟨ad370, e370, hx370_0, hx370_1, hx370_2, hx370_3, hx370_4, hx370_5, hx370_6, hx370_7, hx370_8⟩ := at_T25 HR0.out a2 p370 q370
                        have hw370_8 := hx370_8
                        have hw370_7 := hx370_7
                        have hw370_6 := hx370_6
                        have hw370_5 := hx370_5
                        have hw370_4 := hx370_4
                        have hw370_3 := hx370_3
                        have hw370_2 := hx370_2
                        have hw370_1 := hx370_1
                        have hw370_0 := hx370_0
                        cases e370
                        replace hx370_0 := (HB.out.cell (World.block_lt_of_cell? w _ hx370_0)).trans hx370_0
                        replace hx370_1 := (HB.out.cell (World.block_lt_of_cell? w _ hx370_1)).trans hx370_1
                        replace hx370_2 := (HB.out.cell (World.block_lt_of_cell? w _ hx370_2)).trans hx370_2
                        replace hx370_3 := (HB.out.cell (World.block_lt_of_cell? w _ hx370_3)).trans hx370_3
                        replace hx370_4 := (HB.out.cell (World.block_lt_of_cell? w _ hx370_4)).trans hx370_4
                        replace hx370_5 := (HB.out.cell (World.block_lt_of_cell? w _ hx370_5)).trans hx370_5
                        replace hx370_6 := (HB.out.cell (World.block_lt_of_cell? w _ hx370_6)).trans hx370_6
                        replace hx370_7 := (HB.out.cell (World.block_lt_of_cell? w _ hx370_7)).trans hx370_7
                        replace hx370_8 := (HB.out.cell (World.block_lt_of_cell? w _ hx370_8)).trans hx370_8
                        replace p370 := eq_true p370
                        replace q370 := eq_true q370
                        refine start_ (n := 11) (S := fun w' => w'.cell? ⟨gb352, 0, none⟩ = some (.int .i64 a1_0) ∧ w'.cell? ⟨gb352, 1, none⟩ = some (.int .i64 a1_1) ∧ w'.cell? ⟨gb352, 2, none⟩ = some (.int .i64 a1_2) ∧ w'.cell? ⟨gb352, 3, none⟩ = some (.int .i64 a1_3) ∧ w'.cell? ⟨gb352, 4, none⟩ = some (.int .u64 a1_4) ∧ w'.cell? ⟨gb352, 5, none⟩ = some (.int .u64 a1_5) ∧ w'.cell? ⟨gb352, 6, none⟩ = some (.int .i64 a1_6) ∧ w'.cell? ⟨gb352, 7, none⟩ = some (.int .i64 a1_7) ∧ w'.cell? ⟨gb352, 8, none⟩ = some (.int .i64 a1_8) ∧ w'.cell? (ad370.add ((a2).toNat * 9)) = some (.int .i64 ((rd_T25 l0 a2).f0)) ∧ w'.cell? ⟨(ad370.add ((a2).toNat * 9)).block, (ad370.add ((a2).toNat * 9)).off + 1, none⟩ = some (.int .i64 ((rd_T25 l0 a2).f1)) ∧ w'.cell? ⟨(ad370.add ((a2).toNat * 9)).block, (ad370.add ((a2).toNat * 9)).off + 2, none⟩ = some (.int .i64 ((rd_T25 l0 a2).f2)) ∧ w'.cell? ⟨(ad370.add ((a2).toNat * 9)).block, (ad370.add ((a2).toNat * 9)).off + 3, none⟩ = some (.int .i64 ((rd_T25 l0 a2).f3)) ∧ w'.cell? ⟨(ad370.add ((a2).toNat * 9)).block, (ad370.add ((a2).toNat * 9)).off + 4, none⟩ = some (.int .u64 ((rd_T25 l0 a2).f4)) ∧ w'.cell? ⟨(ad370.add ((a2).toNat * 9)).block, (ad370.add ((a2).toNat * 9)).off + 5, none⟩ = some (.int .u64 ((rd_T25 l0 a2).f5)) ∧ w'.cell? ⟨(ad370.add ((a2).toNat * 9)).block, (ad370.add ((a2).toNat * 9)).off + 6, none⟩ = some (.int .i64 ((rd_T25 l0 a2).f6)) ∧ w'.cell? ⟨(ad370.add ((a2).toNat * 9)).block, (ad370.add ((a2).toNat * 9)).off + 7, none⟩ = some (.int .i64 ((rd_T25 l0 a2).f7)) ∧ w'.cell? ⟨(ad370.add ((a2).toNat * 9)).block, (ad370.add ((a2).toNat * 9)).off + 8, none⟩ = some (.int .i64 ((rd_T25 l0 a2).f8))) (ds := []) #[false, false, false, false, false, false, false, false, false, false, false] (by kernel_rfl) rfl rfl ⟨(blk_cell BK352.out 0).trans rfl, (blk_cell BK352.out 1).trans rfl, (blk_cell BK352.out 2).trans rfl, (blk_cell BK352.out 3).trans rfl, (blk_cell BK352.out 4).trans rfl, (blk_cell BK352.out 5).trans rfl, (blk_cell BK352.out 6).trans rfl, (blk_cell BK352.out 7).trans rfl, (blk_cell BK352.out 8).trans rfl, ((HB.out.cell (World.block_lt_of_cell? w _ hw370_0)).trans hw370_0), ((HB.out.cell (World.block_lt_of_cell? w _ hw370_1)).trans hw370_1), ((HB.out.cell (World.block_lt_of_cell? w _ hw370_2)).trans hw370_2), ((HB.out.cell (World.block_lt_of_cell? w _ hw370_3)).trans hw370_3), ((HB.out.cell (World.block_lt_of_cell? w _ hw370_4)).trans hw370_4), ((HB.out.cell (World.block_lt_of_cell? w _ hw370_5)).trans hw370_5), ((HB.out.cell (World.block_lt_of_cell? w _ hw370_6)).trans hw370_6), ((HB.out.cell (World.block_lt_of_cell? w _ hw370_7)).trans hw370_7), ((HB.out.cell (World.block_lt_of_cell? w _ hw370_8)).trans hw370_8)⟩ (fun hHeld => ?_); refine with_tabW pelicanlaw10_EntrySame.tab11 pelicanlaw10_EntrySame.bits11 (fun HT_ HW_ => ?_)
                        generalize w59.drew = w60 at HO360 HO363 HO367 BK352 HB hx370_0 hx370_1 hx370_2 hx370_3 hx370_4 hx370_5 hx370_6 hx370_7 hx370_8 hHeld ⊢
                        refine pure_ (i := 0) (N := some 52) (v := ?_) (a' := ?_) #[true, false, false, false, false, false, false, false, false, false, false] rfl rfl (any_of HT_.out (by kernel_rfl)) (fun _ _ _ h => h) (Or.inl ⟨by rfl, ?_⟩) ?_ ?_
                        rotate_left
                        · intro w'
                          go_simp
                          with_reducible rfl
                        rotate_left
                        · simp only [Act.put, List.setIfInBounds_toArray, List.set_cons_zero, List.set_cons_succ, i64_w, i32_w]
                          rfl
                        refine pure_ (i := 1) (N := some 53) (v := ?_) (a' := ?_) #[true, true, false, false, false, false, false, false, false, false, false] rfl rfl (any_of HT_.out (by kernel_rfl)) (fun _ _ _ h => h) (Or.inl ⟨by rfl, ?_⟩) ?_ ?_
                        rotate_left
                        · intro w'
                          go_simp
                          with_reducible rfl
                        rotate_left
                        · simp only [Act.put, List.setIfInBounds_toArray, List.set_cons_zero, List.set_cons_succ, i64_w, i32_w]
                          rfl
                        refine pure_ (i := 3) (N := some 55) (v := ?_) (a' := ?_) #[true, true, false, true, false, false, false, false, false, false, false] rfl rfl (any_of HT_.out (by kernel_rfl)) (fun _ _ _ h => h) (Or.inl ⟨by rfl, ?_⟩) ?_ ?_
                        rotate_left
                        · intro w'
                          go_simp
                          with_reducible rfl
                        rotate_left
                        · simp only [Act.put, List.setIfInBounds_toArray, List.set_cons_zero, List.set_cons_succ, i64_w, i32_w]
                          rfl
                        refine pure_ (i := 4) (N := some 56) (v := ?_) (a' := ?_) #[true, true, false, true, true, false, false, false, false, false, false] rfl rfl (any_of HT_.out (by kernel_rfl)) (fun _ _ _ h => h) (Or.inl ⟨by rfl, ?_⟩) ?_ ?_
                        rotate_left
                        · intro w'
                          go_simp
                          with_reducible rfl
                        rotate_left
                        · simp only [Act.put, List.setIfInBounds_toArray, List.set_cons_zero, List.set_cons_succ, i64_w, i32_w]
                          rfl
                        refine pure_ (i := 5) (N := some 57) (v := ?_) (a' := ?_) #[true, true, false, true, true, true, false, false, false, false, false] rfl rfl (any_of HT_.out (by kernel_rfl)) (fun _ _ _ h => h) (Or.inl ⟨by rfl, ?_⟩) ?_ ?_
                        rotate_left
                        · intro w'
                          go_simp
                          with_reducible rfl
                        rotate_left
                        · simp only [Act.put, List.setIfInBounds_toArray, List.set_cons_zero, List.set_cons_succ, i64_w, i32_w]
                          rfl
                        refine take_ (i := 6) (N := some 58) (v := ?_) (a' := ?_) #[true, true, false, true, true, true, true, false, false, false, false] rfl rfl (take_ofW HT_.out HW_.out (by kernel_rfl)) (fun _ _ _ h => h) (Or.inl ⟨by rfl, ?_⟩) hHeld ?_ ?_
                        rotate_left
                        · rintro w' ⟨s0, s1, s2, s3, s4, s5, s6, s7, s8, s9, s10, s11, s12, s13, s14, s15, s16, s17⟩
                          go_simp
                          with_reducible rfl
                        rotate_left
                        · simp only [Act.put, List.setIfInBounds_toArray, List.set_cons_zero, List.set_cons_succ, i64_w, i32_w]
                          rfl
                        refine take_ (i := 7) (N := some 59) (v := ?_) (a' := ?_) #[true, true, false, true, true, true, true, true, false, false, false] rfl rfl (take_ofW HT_.out HW_.out (by kernel_rfl)) (fun _ _ _ h => h) (Or.inl ⟨by rfl, ?_⟩) hHeld ?_ ?_
                        rotate_left
                        · rintro w' ⟨s0, s1, s2, s3, s4, s5, s6, s7, s8, s9, s10, s11, s12, s13, s14, s15, s16, s17⟩
                          go_simp
                          with_reducible rfl
                        rotate_left
                        · simp only [Act.put, List.setIfInBounds_toArray, List.set_cons_zero, List.set_cons_succ, i64_w, i32_w]
                          rfl
                        refine pure_ (i := 8) (N := some 60) (v := ?_) (a' := ?_) #[true, true, false, true, true, true, true, true, true, false, false] rfl rfl (any_of HT_.out (by kernel_rfl)) (fun _ _ _ h => h) (Or.inl ⟨by rfl, ?_⟩) ?_ ?_
                        rotate_left
                        · intro w'
                          go_simp
                          with_reducible rfl
                        rotate_left
                        · simp only [Act.put, List.setIfInBounds_toArray, List.set_cons_zero, List.set_cons_succ, i64_w, i32_w]
                          rfl
                        refine one_ (i := 2) (N := some 54) #[true, true, true, true, true, true, true, true, true, false, false] rfl rfl (one_of HT_.out (by kernel_rfl)) (by decide) (fun K hK => ?_)
                        refine goes_ Try.func19 (by kernel_rfl) rfl #[.slice (some ad370) l0.length c0, .slice (some ⟨go45, 0, none⟩) y368.length co45] (by rfl) rfl rfl (by (try simp only [List.map_toArray, List.map_cons, List.map_nil]); first | done | (rw [show y368.length = y365.length from (Kd.R_reads' HO367.out).1.symm] <;> rfl) | rfl | (simp only [List.length_drop, List.length_take]; rfl)) ?_
                        with_reducible refine (entry_Same.calls kj4 _ _ l0 _ _ y368 t369 _ ?side1 ?side2 ?side3 ?side4 A46.out).mono ?_
                        (case side1 => repeat (first | exact (Kd.C_below HR0.out HB.out) | (with_reducible refine Kd.C_alloc ?_ _) | (with_reducible refine Kd.C_drewN ?_ _) | (with_reducible refine Kd.C_drew ?_)))
                        (case side2 => exact HC0.out)
                        (case side3 => repeat (first | exact (Kd.R_reads' HO367.out).2.2 | (with_reducible refine Kd.C_alloc ?_ _) | (with_reducible refine Kd.C_drewN ?_ _) | (with_reducible refine Kd.C_drew ?_)))
                        (case side4 => rw [show y368.length = y365.length from (Kd.R_reads' HO367.out).1.symm]; exact (Kd.R_reads' HO367.out).2.1)
                        rintro e w' ⟨rfl, ⟨nd, rfl⟩⟩
                        refine ⟨_, rfl, ?_⟩
                        refine hK.out _ _ ⟨(blk_cell BK352.out 0).trans rfl, (blk_cell BK352.out 1).trans rfl, (blk_cell BK352.out 2).trans rfl, (blk_cell BK352.out 3).trans rfl, (blk_cell BK352.out 4).trans rfl, (blk_cell BK352.out 5).trans rfl, (blk_cell BK352.out 6).trans rfl, (blk_cell BK352.out 7).trans rfl, (blk_cell BK352.out 8).trans rfl, ((HB.out.cell (World.block_lt_of_cell? w _ hw370_0)).trans hw370_0), ((HB.out.cell (World.block_lt_of_cell? w _ hw370_1)).trans hw370_1), ((HB.out.cell (World.block_lt_of_cell? w _ hw370_2)).trans hw370_2), ((HB.out.cell (World.block_lt_of_cell? w _ hw370_3)).trans hw370_3), ((HB.out.cell (World.block_lt_of_cell? w _ hw370_4)).trans hw370_4), ((HB.out.cell (World.block_lt_of_cell? w _ hw370_5)).trans hw370_5), ((HB.out.cell (World.block_lt_of_cell? w _ hw370_6)).trans hw370_6), ((HB.out.cell (World.block_lt_of_cell? w _ hw370_7)).trans hw370_7), ((HB.out.cell (World.block_lt_of_cell? w _ hw370_8)).trans hw370_8)⟩ (fun hHeld => ?_)
                        clear hK K
                        refine norm_ (a' := ?_) ?_ ?_
                        rotate_left
                        · show Act.put _ (some 54) _ = _
                          simp only [Act.put, List.setIfInBounds_toArray, List.set_cons_zero, List.set_cons_succ, i64_w, i32_w]
                          rfl
                        refine pure_ (i := 9) (N := some 61) (v := ?_) (a' := ?_) #[true, true, true, true, true, true, true, true, true, true, false] rfl rfl (any_of HT_.out (by kernel_rfl)) (fun _ _ _ h => h) (Or.inl ⟨by rfl, ?_⟩) ?_ ?_
                        rotate_left
                        · intro w'
                          go_simp
                          with_reducible rfl
                        rotate_left
                        · simp only [Act.put, List.setIfInBounds_toArray, List.set_cons_zero, List.set_cons_succ, i64_w, i32_w]
                          rfl
                        refine pure_ (i := 10) (N := some 6) (v := ?_) (a' := ?_) #[true, true, true, true, true, true, true, true, true, true, true] rfl rfl (any_of HT_.out (by kernel_rfl)) (fun _ _ _ h => h) (Or.inl ⟨by rfl, ?_⟩) ?_ ?_
                        rotate_left
                        · intro w'
                          go_simp
                          with_reducible rfl
                        rotate_left
                        · simp only [Act.put, List.setIfInBounds_toArray, List.set_cons_zero, List.set_cons_succ, i64_w, i32_w]
                          rfl
                        refine done_ (done_of HT_.out (by kernel_rfl)) ?_
                        try go_wp2
                        go_ret
                        exact ⟨by first | rfl | (simp [errW_none, errW_some] <;> rfl) | (simp [*, errW_none, errW_some] <;> rfl), by repeat (first | (with_reducible first | exact HB.out | apply below_alloc | apply pw_below_drewN | apply below_drew1 | refine below_set ?_ GE352.out) | exact HB.out)⟩
                      · rw [if_neg c47] at H
                        exact absurd H (by simp)
                    · rw [if_neg c44] at H
                      exact absurd H (by simp)
                  · rw [if_neg c43] at H
                    exact absurd H (by simp)
          · rw [if_neg c14] at H
            exact absurd H (by simp)
        · rw [if_neg c13] at H
          exact absurd H (by simp)

end Go.Proofs.Ytphfejboahcnhaa.P
