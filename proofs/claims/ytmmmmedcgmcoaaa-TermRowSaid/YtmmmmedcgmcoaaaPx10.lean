-- Laid by a program of this session (wip/pp.py), which calls the kit's print.
import Derived.Test.YtmmmmedcgmcoaaaPx0
import Derived.Test.YtmmmmedcgmcoaaaPx2
import Derived.Test.YtmmmmedcgmcoaaaPx7
import Derived.Test.YtmmmmedcgmcoaaaHAwake
import Derived.Test.YtmmmmedcgmcoaaaHRow
import Derived.Test.YtmmmmedcgmcoaaaHSame
import Derived.Test.YtmmmmedcgmcoaaaHUnrow
import Derived.Test.YtmmmmedcgmcoaaaHWalk
namespace Go.Proofs.Ytmmmmedcgmcoaaa.P
open Go.RowKit Go.Proofs.YtmmmmedcgmcoaaaW.PrintWords Go.Proofs.YtmmmmedcgmcoaaaW.PrintLast Go.Proofs.YtmmmmedcgmcoaaaW.PrintMore
attribute [local go_sem] max2_int min2_int max_two min_two max_three min_three max_four min_four   -- for this text's walks alone
set_option linter.unusedVariables false
set_option linter.unusedSimpArgs false

/-! ### pelicanlaw05_TermRow: function 5 -/
mutual
def pelicanlaw05_TermRow.j0 : Nat → List Int → List Int → Bool → Bool → Int → Int → List (S24) → Option (Bool)
  | 0, _, _, _, _, _, _, _ => none
  | k + 1, x0, x1, x7, x39, x220000, x220001, x220002 => if x39 = true then (some x7) else ((term_Row.f x0).bind fun bt222 => ((term_Row.f x1).bind fun bt229 => ((term_Unrow.f bt222.1 bt222.2.1 bt222.2.2.1).bind fun bt236 => ((pelicanref05_Ints.f k bt236.1 x0).bind fun t240 => ((pelicanref05_Ints.f k x0 x1).bind fun t241 => (if bt222.2.2.2 = true then (if bt236.2 = true then (if t240 = true then ((term_May.f bt222.1 bt222.2.1 bt222.2.2.1).bind fun t242 => (if t242 = true then (if bt229.2.2.2 = true then ((term_Same.f bt222.1 bt222.2.1 bt222.2.2.1 bt229.1 bt229.2.1 bt229.2.2.1).bind fun t243 => (pelicanlaw05_TermRow.j1 k (t243 != t241) x220000 x220001 x220002)) else (pelicanlaw05_TermRow.j1 k false x220000 x220001 x220002)) else (pelicanlaw05_TermRow.j1 k true x220000 x220001 x220002))) else (pelicanlaw05_TermRow.j1 k true x220000 x220001 x220002)) else (pelicanlaw05_TermRow.j1 k true x220000 x220001 x220002)) else (pelicanlaw05_TermRow.j1 k false x220000 x220001 x220002)))))))
def pelicanlaw05_TermRow.j1 : Nat → Bool → Int → Int → List (S24) → Option (Bool)
  | 0, _, _, _, _ => none
  | k + 1, x88, x220000, x220001, x220002 => if x88 = true then (some false) else ((term_Unrow.f x220000 x220001 x220002).bind fun bt244 => ((term_Row.f bt244.1).bind fun bt248 => (if bt244.2 = true then (if bt248.2.2.2 = true then ((term_Same.f bt248.1 bt248.2.1 bt248.2.2.1 x220000 x220001 x220002).bind fun t255 => (some t255)) else (some false)) else (some true))))
end
def pelicanlaw05_TermRow.f (k : Nat) (l0 : List Int) (l1 : List Int) (a2_0 : Int) (a2_1 : Int) (l2_2 : List (S24)) : Option (Bool) := (pelicanlaw05_awake.f).bind fun t220 => ((pelicanref05_Light.f k a2_0 a2_1 l2_2).bind fun t221 => (if t220 = true then (if t221 = true then (if (l0.length : Int) > 20 then (pelicanlaw05_TermRow.j0 k l0 l1 t220 true a2_0 a2_1 l2_2) else (pelicanlaw05_TermRow.j0 k l0 l1 t220 (decide ((l1.length : Int) > 20)) a2_0 a2_1 l2_2)) else (pelicanlaw05_TermRow.j0 k l0 l1 t220 true a2_0 a2_1 l2_2)) else (pelicanlaw05_TermRow.j0 k l0 l1 t220 true a2_0 a2_1 l2_2)))
theorem pelicanlaw05_TermRow.mono_l : ∀ k, (∀ y0 y1 y2 y3 y4 y5 y6, LeO (pelicanlaw05_TermRow.j0 k y0 y1 y2 y3 y4 y5 y6) (pelicanlaw05_TermRow.j0 (k + 1) y0 y1 y2 y3 y4 y5 y6)) ∧ (∀ y0 y1 y2 y3, LeO (pelicanlaw05_TermRow.j1 k y0 y1 y2 y3) (pelicanlaw05_TermRow.j1 (k + 1) y0 y1 y2 y3))
  | 0 => ⟨fun _ _ _ _ _ _ _ r h => by simp [pelicanlaw05_TermRow.j0] at h, fun _ _ _ _ r h => by simp [pelicanlaw05_TermRow.j1] at h⟩
  | k + 1 => by
    obtain ⟨ih0, ih1⟩ := pelicanlaw05_TermRow.mono_l k
    refine ⟨?_, ?_⟩
    · intro y0 y1 y2 y3 y4 y5 y6
      unfold pelicanlaw05_TermRow.j0
      repeat' first
      | (with_reducible exact ih0 _ _ _ _ _ _ _)
      | (with_reducible exact ih1 _ _ _ _)
      | (with_reducible exact pelicanref05_Ints.mono _ _ _)
      | (with_reducible exact pelicanref05_Light.mono _ _ _ _)
      | (with_reducible exact LeO.refl _)
      | (with_reducible exact LeO.none _)
      | (with_reducible refine LeO.ite ?_ ?_)
      | (with_reducible refine LeO.bind ?_ (fun _ => ?_))
      | exact ih0 _ _ _ _ _ _ _
      | exact ih1 _ _ _ _
      | exact pelicanref05_Ints.mono _ _ _
      | exact pelicanref05_Light.mono _ _ _ _
      | exact LeO.none _
      | refine LeO.ite ?_ ?_
      | refine LeO.bind ?_ (fun _ => ?_)
    · intro y0 y1 y2 y3
      unfold pelicanlaw05_TermRow.j1
      repeat' first
      | (with_reducible exact ih0 _ _ _ _ _ _ _)
      | (with_reducible exact ih1 _ _ _ _)
      | (with_reducible exact pelicanref05_Ints.mono _ _ _)
      | (with_reducible exact pelicanref05_Light.mono _ _ _ _)
      | (with_reducible exact LeO.refl _)
      | (with_reducible exact LeO.none _)
      | (with_reducible refine LeO.ite ?_ ?_)
      | (with_reducible refine LeO.bind ?_ (fun _ => ?_))
      | exact ih0 _ _ _ _ _ _ _
      | exact ih1 _ _ _ _
      | exact pelicanref05_Ints.mono _ _ _
      | exact pelicanref05_Light.mono _ _ _ _
      | exact LeO.none _
      | refine LeO.ite ?_ ?_
      | refine LeO.bind ?_ (fun _ => ?_)
theorem pelicanlaw05_TermRow.mono : ∀ a0 a1 a2 a3 a4 k, LeO (pelicanlaw05_TermRow.f k a0 a1 a2 a3 a4) (pelicanlaw05_TermRow.f (k + 1) a0 a1 a2 a3 a4) := by
  intro a0 a1 a2 a3 a4 k
  obtain ⟨ih0, ih1⟩ := pelicanlaw05_TermRow.mono_l k
  unfold pelicanlaw05_TermRow.f
  repeat' first
      | (with_reducible exact ih0 _ _ _ _ _ _ _)
      | (with_reducible exact ih1 _ _ _ _)
      | (with_reducible exact pelicanref05_Ints.mono _ _ _)
      | (with_reducible exact pelicanref05_Light.mono _ _ _ _)
      | (with_reducible exact LeO.refl _)
      | (with_reducible exact LeO.none _)
      | (with_reducible refine LeO.ite ?_ ?_)
      | (with_reducible refine LeO.bind ?_ (fun _ => ?_))
      | exact ih0 _ _ _ _ _ _ _
      | exact ih1 _ _ _ _
      | exact pelicanref05_Ints.mono _ _ _
      | exact pelicanref05_Light.mono _ _ _ _
      | exact LeO.none _
      | refine LeO.ite ?_ ?_
      | refine LeO.bind ?_ (fun _ => ?_)
theorem pelicanlaw05_TermRow.j1_dead {k : Nat} {y1 y2 y3} {r : Bool} (h : pelicanlaw05_TermRow.j1 k true y1 y2 y3 = some r) : r = false := by
  cases k with
  | zero => simp [pelicanlaw05_TermRow.j1] at h
  | succ k => rw [pelicanlaw05_TermRow.j1, if_pos rfl] at h; exact (Option.some.inj h).symm
set_option maxHeartbeats 8000000 in
set_option maxRecDepth 100000 in
theorem pelicanlaw05_TermRow.calls (k : Nat) (A0 : Option Addr) (c0 : Nat) (l0 : List Int) (A1 : Option Addr) (c1 : Nat) (l1 : List Int) (a2_0 : Int) (a2_1 : Int) (A2_2 : Option Addr) (c2_2 : Nat) (l2_2 : List (S24)) (r : Bool) (w : World) (hr0 : Kd.C (Kd.int .i64) w A0 l0.length l0) (hc0 : l0.length ≤ c0) (hr1 : Kd.C (Kd.int .i64) w A1 l1.length l1) (hc1 : l1.length ≤ c1) (hr2_2 : Kd.C k24 w A2_2 l2_2.length l2_2) (hc2_2 : l2_2.length ≤ c2_2) (h : pelicanlaw05_TermRow.f k l0 l1 a2_0 a2_1 l2_2 = some r) (hr_0 : r = true) :
    Calls Try.prog 5 #[.slice A0 l0.length c0, .slice A1 l1.length c1, .agg #[.int .i64 a2_0, .int .i64 a2_1, .slice A2_2 l2_2.length c2_2]] w fun e w' => e = .returned (.bool r) ∧ Below w.heap.size w w' := by
  have hr_ := Aside0.mk hr_0
  clear hr_0
  have hu24 := Try.underlying24
  have HR0 := Aside0.mk hr0
  have HC0 := Aside0.mk hc0
  clear hr0 hc0
  have HR1 := Aside0.mk hr1
  have HC1 := Aside0.mk hc1
  clear hr1 hc1
  have HR2_2 := Aside0.mk hr2_2
  have HC2_2 := Aside0.mk hc2_2
  clear hr2_2 hc2_2
  have HB := Aside0.mk (Below.refl w.heap.size w)
  have H : ((pelicanlaw05_awake.f).bind fun t220 => ((pelicanref05_Light.f k a2_0 a2_1 l2_2).bind fun t221 => (if t220 = true then (if t221 = true then (if (l0.length : Int) > 20 then (pelicanlaw05_TermRow.j0 k l0 l1 t220 true a2_0 a2_1 l2_2) else (pelicanlaw05_TermRow.j0 k l0 l1 t220 (decide ((l1.length : Int) > 20)) a2_0 a2_1 l2_2)) else (pelicanlaw05_TermRow.j0 k l0 l1 t220 true a2_0 a2_1 l2_2)) else (pelicanlaw05_TermRow.j0 k l0 l1 t220 true a2_0 a2_1 l2_2)))) = some r := h
  clear h
  replace H := Option.bind_eq_some_iff.mp H
  obtain ⟨t220, A40, H⟩ := H
  replace H : ((pelicanref05_Light.f k a2_0 a2_1 l2_2).bind fun t221 => (if t220 = true then (if t221 = true then (if (l0.length : Int) > 20 then (pelicanlaw05_TermRow.j0 k l0 l1 t220 true a2_0 a2_1 l2_2) else (pelicanlaw05_TermRow.j0 k l0 l1 t220 (decide ((l1.length : Int) > 20)) a2_0 a2_1 l2_2)) else (pelicanlaw05_TermRow.j0 k l0 l1 t220 true a2_0 a2_1 l2_2)) else (pelicanlaw05_TermRow.j0 k l0 l1 t220 true a2_0 a2_1 l2_2))) = some r := H
  have A4 := Aside0.mk A40
  clear A40
  replace H := Option.bind_eq_some_iff.mp H
  obtain ⟨t221, A50, H⟩ := H
  replace H : (if t220 = true then (if t221 = true then (if (l0.length : Int) > 20 then (pelicanlaw05_TermRow.j0 k l0 l1 t220 true a2_0 a2_1 l2_2) else (pelicanlaw05_TermRow.j0 k l0 l1 t220 (decide ((l1.length : Int) > 20)) a2_0 a2_1 l2_2)) else (pelicanlaw05_TermRow.j0 k l0 l1 t220 true a2_0 a2_1 l2_2)) else (pelicanlaw05_TermRow.j0 k l0 l1 t220 true a2_0 a2_1 l2_2)) = some r := H
  have A5 := Aside0.mk A50
  clear A50
  have HC6 := Aside0.mk H
  clear H
  go_enter Try.func5, Try.ntmps5
  go_upto_region 3 with (first | ((with_reducible refine gate_dst (N := 5) rfl ?_); (try (refine gate_guard (by rfl) ?_; dsimp only)); refine box_event ?hg (N := 5) ?hd (cs := #[.int .i64 a2_0, .int .i64 a2_1, .slice A2_2 l2_2.length c2_2]) (t := 24) ?hr ?_; (case hd => rfl); (case hg => rfl); (case hr => first | (go_simp; done) | (go_simp; rfl)); intro gb219 hg w7 hbox hb; have n0_ := Aside0.mk (below_step (by repeat (first | (with_reducible first | exact HB.out | apply below_alloc | apply pw_below_drewN | apply below_drew1) | exact HB.out)) hb); have n1_ := Aside0.mk (hbox); have n2_ := Aside0.mk ((by rw [hg]; exact (below_size (by repeat (first | (with_reducible first | exact HB.out | apply below_alloc | apply pw_below_drewN | apply below_drew1) | exact HB.out))) : w.heap.size ≤ gb219)); have n3_ := Aside0.mk ((by rw [hg]; exact (below_size (by repeat (first | (with_reducible first | exact HB.out | apply below_alloc | apply pw_below_drewN | apply below_drew1) | exact HB.out))) : w.heap.size ≤ gb219)); clear HB; have HB := n0_; have BK219 := n1_; have GW219 := n2_; have GE219 := n3_; clear n0_ n1_ n2_ n3_; clear hb hbox hg) | ((with_reducible refine gate_callee (f := 9) rfl ?_); refine goesL_ (some 21) rfl rfl Try.func9 (by kernel_rfl) rfl #[] rfl (by (try simp only [List.map_toArray, List.map_cons, List.map_nil]); first | done | rfl | (simp only [List.length_drop, List.length_take]; rfl)) ?_; (with_reducible refine (pelicanlaw05_awake.calls  t220 _ A4.out).mono ?_); rintro e w8 ⟨rfl, hb⟩; refine ⟨_, rfl, ?_⟩; have n0_ := Aside0.mk (blk_below (g := gb219) (o := .cells #[.int .i64 a2_0, .int .i64 a2_1, .slice A2_2 l2_2.length c2_2] 24 (0, 0)) (by (with_reducible repeat (first | refine blk_drewN ?_ _ | refine blk_drew ?_ | refine blk_alloc ?_ _)); exact BK219.out) hb); have n1_ := Aside0.mk (below_step (by repeat (first | (with_reducible first | exact HB.out | apply below_alloc | apply pw_below_drewN | apply below_drew1 | refine below_set ?_ GE219.out) | exact HB.out)) hb); clear BK219; clear HB; have BK219 := n0_; have HB := n1_; clear n0_ n1_; (try clear hb); (try clear hb2); (try clear hk); (try clear hi); have hcz9_0 : w8.cell? ⟨gb219, 0, none⟩ = some (.int .i64 a2_0) := (blk_cell BK219.out 0).trans rfl; have hcz9_1 : w8.cell? ⟨gb219, 1, none⟩ = some (.int .i64 a2_1) := (blk_cell BK219.out 1).trans rfl; have hcz9_2 : w8.cell? ⟨gb219, 2, none⟩ = some (.slice A2_2 l2_2.length c2_2) := (blk_cell BK219.out 2).trans rfl; have hfz9_0 := blk_frozen BK219.out 0; have hfz9_1 := blk_frozen BK219.out 1; have hfz9_2 := blk_frozen BK219.out 2) | ((with_reducible refine gate_callee (f := 10) rfl ?_); refine goesL_ (some 23) rfl rfl Try.func10 (by kernel_rfl) rfl #[.agg #[.int .i64 a2_0, .int .i64 a2_1, .slice A2_2 l2_2.length c2_2]] rfl (by (try simp only [List.map_toArray, List.map_cons, List.map_nil]); first | done | rfl | (simp only [List.length_drop, List.length_take]; rfl)) ?_; (with_reducible refine (pelicanref05_Light.calls k a2_0 a2_1 _ _ l2_2 t221 _ ?side1 ?side2 A5.out).mono ?_); (case side1 => repeat (first | exact (Kd.C_below HR2_2.out HB.out) | (with_reducible refine Kd.C_alloc ?_ _) | (with_reducible refine Kd.C_drewN ?_ _) | (with_reducible refine Kd.C_drew ?_))); (case side2 => exact HC2_2.out); rintro e w10 ⟨rfl, hb⟩; refine ⟨_, rfl, ?_⟩; have n0_ := Aside0.mk (blk_below (g := gb219) (o := .cells #[.int .i64 a2_0, .int .i64 a2_1, .slice A2_2 l2_2.length c2_2] 24 (0, 0)) (by (with_reducible repeat (first | refine blk_drewN ?_ _ | refine blk_drew ?_ | refine blk_alloc ?_ _)); exact BK219.out) hb); have n1_ := Aside0.mk (below_step (by repeat (first | (with_reducible first | exact HB.out | apply below_alloc | apply pw_below_drewN | apply below_drew1 | refine below_set ?_ GE219.out) | exact HB.out)) hb); clear BK219; clear HB; have BK219 := n0_; have HB := n1_; clear n0_ n1_; (try clear hb); (try clear hb2); (try clear hk); (try clear hi)))
  (try simp only [Act.put, List.setIfInBounds_toArray, List.set_cons_zero, List.set_cons_succ])
  go_cut [39] (fun v39 wc => ∃ (kq : Nat) (x39_5 : Bool), v39 = .bool x39_5 ∧ Aside0 (pelicanlaw05_TermRow.j0 kq l0 l1 t220 x39_5 a2_0 a2_1 l2_2 = some r) ∧ Aside0 (kq ≤ k) ∧ Aside0 (wc.heap[gb219]? = some (.cells #[.int .i64 a2_0, .int .i64 a2_1, (.slice A2_2 l2_2.length c2_2)] 24 (0, 0))) ∧ Aside0 (Below w.heap.size w wc))
  case first =>
    have H := HC6.out
    clear HC6
    by_cases c11 : t220 = true
    · subst c11
      have H1 : (if t221 = true then (if (l0.length : Int) > 20 then (pelicanlaw05_TermRow.j0 k l0 l1 true true a2_0 a2_1 l2_2) else (pelicanlaw05_TermRow.j0 k l0 l1 true (decide ((l1.length : Int) > 20)) a2_0 a2_1 l2_2)) else (pelicanlaw05_TermRow.j0 k l0 l1 true true a2_0 a2_1 l2_2)) = some r := by rw [if_pos rfl] at H; exact H
      clear H
      have H := H1
      clear H1
      by_cases c12 : t221 = true
      · subst c12
        have H1 : (if (l0.length : Int) > 20 then (pelicanlaw05_TermRow.j0 k l0 l1 true true a2_0 a2_1 l2_2) else (pelicanlaw05_TermRow.j0 k l0 l1 true (decide ((l1.length : Int) > 20)) a2_0 a2_1 l2_2)) = some r := by rw [if_pos rfl] at H; exact H
        clear H
        have H := H1
        clear H1
        by_cases c13 : (l0.length : Int) > 20
        · rw [if_pos c13] at H
          have c13b0 : decide (20 < (l0.length : Int)) = true := decide_eq_true c13
          have c13b1 : decide (20 < l0.length) = true := decide_eq_true (by omega)
          clear c13
          (first | rw [c13b0] | (simp only [i64_w, i32_w]; rw [c13b0]) | skip)
          have H' := Aside0.mk H
          clear H
          go_wp2
          go_meet
          case rel => exact ⟨_, (true), (by first | rfl | (simp; done) | (simp [*]; done)), H', ⟨by first | omega | exact Nat.le_refl _⟩, ⟨by (with_reducible repeat (first | refine blk_drewN ?_ _ | refine blk_drew ?_ | refine blk_alloc ?_ _)); exact BK219.out⟩, ⟨by repeat (first | (with_reducible first | exact HB.out | apply below_alloc | apply pw_below_drewN | apply below_drew1 | refine below_set ?_ GE219.out) | exact HB.out)⟩⟩
        · rw [if_neg c13] at H
          have c13b0 : decide (20 < (l0.length : Int)) = false := decide_eq_false c13
          have c13b1 : decide (20 < l0.length) = false := decide_eq_false (by omega)
          clear c13
          (first | rw [c13b0] | (simp only [i64_w, i32_w]; rw [c13b0]) | skip)
          have H' := Aside0.mk H
          clear H
          go_wp2
          go_meet
          case rel => exact ⟨_, (decide ((l1.length : Int) > 20)), (by first | rfl | (simp; done) | (simp [*]; done)), H', ⟨by first | omega | exact Nat.le_refl _⟩, ⟨by (with_reducible repeat (first | refine blk_drewN ?_ _ | refine blk_drew ?_ | refine blk_alloc ?_ _)); exact BK219.out⟩, ⟨by repeat (first | (with_reducible first | exact HB.out | apply below_alloc | apply pw_below_drewN | apply below_drew1 | refine below_set ?_ GE219.out) | exact HB.out)⟩⟩
      · replace c12 := Bool.eq_false_iff.mpr c12
        subst c12
        have H1 : (pelicanlaw05_TermRow.j0 k l0 l1 true true a2_0 a2_1 l2_2) = some r := by rw [if_neg (show ¬ (false = true) by decide)] at H; exact H
        clear H
        have H := H1
        clear H1
        have H' := Aside0.mk H
        clear H
        go_wp2
        go_meet
        case rel => exact ⟨_, (true), (by first | rfl | (simp; done) | (simp [*]; done)), H', ⟨by first | omega | exact Nat.le_refl _⟩, ⟨by (with_reducible repeat (first | refine blk_drewN ?_ _ | refine blk_drew ?_ | refine blk_alloc ?_ _)); exact BK219.out⟩, ⟨by repeat (first | (with_reducible first | exact HB.out | apply below_alloc | apply pw_below_drewN | apply below_drew1 | refine below_set ?_ GE219.out) | exact HB.out)⟩⟩
    · replace c11 := Bool.eq_false_iff.mpr c11
      subst c11
      have H1 : (pelicanlaw05_TermRow.j0 k l0 l1 false true a2_0 a2_1 l2_2) = some r := by rw [if_neg (show ¬ (false = true) by decide)] at H; exact H
      clear H
      have H := H1
      clear H1
      have H' := Aside0.mk H
      clear H
      go_wp2
      go_meet
      case rel => exact ⟨_, (true), (by first | rfl | (simp; done) | (simp [*]; done)), H', ⟨by first | omega | exact Nat.le_refl _⟩, ⟨by (with_reducible repeat (first | refine blk_drewN ?_ _ | refine blk_drew ?_ | refine blk_alloc ?_ _)); exact BK219.out⟩, ⟨by repeat (first | (with_reducible first | exact HB.out | apply below_alloc | apply pw_below_drewN | apply below_drew1 | refine below_set ?_ GE219.out) | exact HB.out)⟩⟩
  case rest =>
    clear HC6
    try clear c1
    try clear c2
    try clear p2
    try clear c5
    try clear c9
    try clear c10
    try clear c11
    try clear c12
    try clear c13
    try clear c13b0
    try clear c13b1
    try clear hcz9_0
    try clear hcz9_1
    try clear hcz9_2
    try clear hfz9_0
    try clear hfz9_1
    try clear hfz9_2
    obtain ⟨kq, x39_5, rfl, HA, HJ5, BK219, HB⟩ := hcut
    cases kq with
    | zero => exact absurd HA.out (by simp [pelicanlaw05_TermRow.j0])
    | succ kj5 =>
      have H := HA.out
      clear HA
      simp only [pelicanlaw05_TermRow.j0] at H
      by_cases c14 : x39_5 = true
      · subst c14
        have H1 : (some t220) = some r := by rw [if_pos rfl] at H; exact H
        clear H
        have H := H1
        clear H1
        obtain rfl := Option.some.inj H
        go_wp2
        go_ret
        exact ⟨by first | rfl | (simp [errW_none, errW_some] <;> rfl) | (simp [*, errW_none, errW_some] <;> rfl), by repeat (first | (with_reducible first | exact HB.out | apply below_alloc | apply pw_below_drewN | apply below_drew1 | refine below_set ?_ GE219.out) | exact HB.out)⟩
      · replace c14 := Bool.eq_false_iff.mpr c14
        subst c14
        have H1 : ((term_Row.f l0).bind fun bt222 => ((term_Row.f l1).bind fun bt229 => ((term_Unrow.f bt222.1 bt222.2.1 bt222.2.2.1).bind fun bt236 => ((pelicanref05_Ints.f kj5 bt236.1 l0).bind fun t240 => ((pelicanref05_Ints.f kj5 l0 l1).bind fun t241 => (if bt222.2.2.2 = true then (if bt236.2 = true then (if t240 = true then ((term_May.f bt222.1 bt222.2.1 bt222.2.2.1).bind fun t242 => (if t242 = true then (if bt229.2.2.2 = true then ((term_Same.f bt222.1 bt222.2.1 bt222.2.2.1 bt229.1 bt229.2.1 bt229.2.2.1).bind fun t243 => (pelicanlaw05_TermRow.j1 kj5 (t243 != t241) a2_0 a2_1 l2_2)) else (pelicanlaw05_TermRow.j1 kj5 false a2_0 a2_1 l2_2)) else (pelicanlaw05_TermRow.j1 kj5 true a2_0 a2_1 l2_2))) else (pelicanlaw05_TermRow.j1 kj5 true a2_0 a2_1 l2_2)) else (pelicanlaw05_TermRow.j1 kj5 true a2_0 a2_1 l2_2)) else (pelicanlaw05_TermRow.j1 kj5 false a2_0 a2_1 l2_2))))))) = some r := by rw [if_neg (show ¬ (false = true) by decide)] at H; exact H
        clear H
        have H := H1
        clear H1
        replace H := Option.bind_eq_some_iff.mp H
        obtain ⟨⟨t222, t223, t224, t227⟩, A150, H⟩ := H
        replace H : ((term_Row.f l1).bind fun bt229 => ((term_Unrow.f t222 t223 t224).bind fun bt236 => ((pelicanref05_Ints.f kj5 bt236.1 l0).bind fun t240 => ((pelicanref05_Ints.f kj5 l0 l1).bind fun t241 => (if t227 = true then (if bt236.2 = true then (if t240 = true then ((term_May.f t222 t223 t224).bind fun t242 => (if t242 = true then (if bt229.2.2.2 = true then ((term_Same.f t222 t223 t224 bt229.1 bt229.2.1 bt229.2.2.1).bind fun t243 => (pelicanlaw05_TermRow.j1 kj5 (t243 != t241) a2_0 a2_1 l2_2)) else (pelicanlaw05_TermRow.j1 kj5 false a2_0 a2_1 l2_2)) else (pelicanlaw05_TermRow.j1 kj5 true a2_0 a2_1 l2_2))) else (pelicanlaw05_TermRow.j1 kj5 true a2_0 a2_1 l2_2)) else (pelicanlaw05_TermRow.j1 kj5 true a2_0 a2_1 l2_2)) else (pelicanlaw05_TermRow.j1 kj5 false a2_0 a2_1 l2_2)))))) = some r := H
        have A15 := Aside0.mk A150
        clear A150
        replace H := Option.bind_eq_some_iff.mp H
        obtain ⟨⟨t229, t230, t231, t234⟩, A160, H⟩ := H
        replace H : ((term_Unrow.f t222 t223 t224).bind fun bt236 => ((pelicanref05_Ints.f kj5 bt236.1 l0).bind fun t240 => ((pelicanref05_Ints.f kj5 l0 l1).bind fun t241 => (if t227 = true then (if bt236.2 = true then (if t240 = true then ((term_May.f t222 t223 t224).bind fun t242 => (if t242 = true then (if t234 = true then ((term_Same.f t222 t223 t224 t229 t230 t231).bind fun t243 => (pelicanlaw05_TermRow.j1 kj5 (t243 != t241) a2_0 a2_1 l2_2)) else (pelicanlaw05_TermRow.j1 kj5 false a2_0 a2_1 l2_2)) else (pelicanlaw05_TermRow.j1 kj5 true a2_0 a2_1 l2_2))) else (pelicanlaw05_TermRow.j1 kj5 true a2_0 a2_1 l2_2)) else (pelicanlaw05_TermRow.j1 kj5 true a2_0 a2_1 l2_2)) else (pelicanlaw05_TermRow.j1 kj5 false a2_0 a2_1 l2_2))))) = some r := H
        have A16 := Aside0.mk A160
        clear A160
        replace H := Option.bind_eq_some_iff.mp H
        obtain ⟨⟨t236, t239⟩, A170, H⟩ := H
        replace H : ((pelicanref05_Ints.f kj5 t236 l0).bind fun t240 => ((pelicanref05_Ints.f kj5 l0 l1).bind fun t241 => (if t227 = true then (if t239 = true then (if t240 = true then ((term_May.f t222 t223 t224).bind fun t242 => (if t242 = true then (if t234 = true then ((term_Same.f t222 t223 t224 t229 t230 t231).bind fun t243 => (pelicanlaw05_TermRow.j1 kj5 (t243 != t241) a2_0 a2_1 l2_2)) else (pelicanlaw05_TermRow.j1 kj5 false a2_0 a2_1 l2_2)) else (pelicanlaw05_TermRow.j1 kj5 true a2_0 a2_1 l2_2))) else (pelicanlaw05_TermRow.j1 kj5 true a2_0 a2_1 l2_2)) else (pelicanlaw05_TermRow.j1 kj5 true a2_0 a2_1 l2_2)) else (pelicanlaw05_TermRow.j1 kj5 false a2_0 a2_1 l2_2)))) = some r := H
        have A17 := Aside0.mk A170
        clear A170
        replace H := Option.bind_eq_some_iff.mp H
        obtain ⟨t240, A180, H⟩ := H
        replace H : ((pelicanref05_Ints.f kj5 l0 l1).bind fun t241 => (if t227 = true then (if t239 = true then (if t240 = true then ((term_May.f t222 t223 t224).bind fun t242 => (if t242 = true then (if t234 = true then ((term_Same.f t222 t223 t224 t229 t230 t231).bind fun t243 => (pelicanlaw05_TermRow.j1 kj5 (t243 != t241) a2_0 a2_1 l2_2)) else (pelicanlaw05_TermRow.j1 kj5 false a2_0 a2_1 l2_2)) else (pelicanlaw05_TermRow.j1 kj5 true a2_0 a2_1 l2_2))) else (pelicanlaw05_TermRow.j1 kj5 true a2_0 a2_1 l2_2)) else (pelicanlaw05_TermRow.j1 kj5 true a2_0 a2_1 l2_2)) else (pelicanlaw05_TermRow.j1 kj5 false a2_0 a2_1 l2_2))) = some r := H
        have A18 := Aside0.mk A180
        clear A180
        replace H := Option.bind_eq_some_iff.mp H
        obtain ⟨t241, A190, H⟩ := H
        replace H : (if t227 = true then (if t239 = true then (if t240 = true then ((term_May.f t222 t223 t224).bind fun t242 => (if t242 = true then (if t234 = true then ((term_Same.f t222 t223 t224 t229 t230 t231).bind fun t243 => (pelicanlaw05_TermRow.j1 kj5 (t243 != t241) a2_0 a2_1 l2_2)) else (pelicanlaw05_TermRow.j1 kj5 false a2_0 a2_1 l2_2)) else (pelicanlaw05_TermRow.j1 kj5 true a2_0 a2_1 l2_2))) else (pelicanlaw05_TermRow.j1 kj5 true a2_0 a2_1 l2_2)) else (pelicanlaw05_TermRow.j1 kj5 true a2_0 a2_1 l2_2)) else (pelicanlaw05_TermRow.j1 kj5 false a2_0 a2_1 l2_2)) = some r := H
        have A19 := Aside0.mk A190
        clear A190
        have HC20 := Aside0.mk H
        clear H
        go_upto_region 10 with (first | ((with_reducible refine gate_callee (f := 11) rfl ?_); refine goesL_ (some 43) rfl rfl Try.func11 (by kernel_rfl) rfl #[.slice A0 l0.length c0] rfl (by (try simp only [List.map_toArray, List.map_cons, List.map_nil]); first | done | rfl | (simp only [List.length_drop, List.length_take]; rfl)) ?_; (with_reducible refine (term_Row.calls _ _ l0 t222 t223 t224 t227 _ ?side1 ?side2 A15.out).mono ?_); (case side1 => repeat (first | exact (Kd.C_below HR0.out HB.out) | (with_reducible refine Kd.C_alloc ?_ _) | (with_reducible refine Kd.C_drewN ?_ _) | (with_reducible refine Kd.C_drew ?_))); (case side2 => exact HC0.out); rintro e w21 ⟨v225, rfl, ho0, hb⟩; refine ⟨_, rfl, ?_⟩; have n0_ := Aside0.mk (Kd.V_lower (Kd.V_mono (ok' := fun k_ => k_ ≠ gb219) ho0 (fun k_ hk_ => (Kd.freshB (g := gb219) (o := .cells #[.int .i64 a2_0, .int .i64 a2_1, .slice A2_2 l2_2.length c2_2] 24 (0, 0)) (by (with_reducible repeat (first | refine blk_drewN ?_ _ | refine blk_drew ?_ | refine blk_alloc ?_ _)); exact BK219.out) k_ hk_))) (below_size (by repeat (first | (with_reducible first | exact HB.out | apply below_alloc | apply pw_below_drewN | apply below_drew1 | refine below_set ?_ GE219.out) | exact HB.out)))); have n1_ := Aside0.mk (blk_below (g := gb219) (o := .cells #[.int .i64 a2_0, .int .i64 a2_1, .slice A2_2 l2_2.length c2_2] 24 (0, 0)) (by (with_reducible repeat (first | refine blk_drewN ?_ _ | refine blk_drew ?_ | refine blk_alloc ?_ _)); exact BK219.out) hb); have n2_ := Aside0.mk (below_step (by repeat (first | (with_reducible first | exact HB.out | apply below_alloc | apply pw_below_drewN | apply below_drew1 | refine below_set ?_ GE219.out) | exact HB.out)) hb); clear BK219; clear HB; have HO226 := n0_; have BK219 := n1_; have HB := n2_; clear n0_ n1_ n2_; (try clear hb); (try clear hb2); (try clear hk); (try clear hi); (try clear ho0)) | ((with_reducible refine gate_dst (N := 9) rfl ?_); (try (refine gate_guard (by rfl) ?_; dsimp only)); refine box_event ?hg (N := 9) ?hd (cs := #[.int .i64 0, .int .i64 0, .slice none 0 0]) (t := 24) ?hr ?_; (case hd => rfl); (case hg => rfl); (case hr => first | (go_simp; done) | (go_simp; rfl)); intro gb228 hg w22 hbox hb; have n0_ := Aside0.mk (Kd.V_below (Kd.V_elderB (by (with_reducible repeat (first | apply Kd.V_alloc | apply Kd.V_drewN | apply Kd.V_drew)); exact HO226.out) gb228 (Nat.le_of_eq hg.symm)) hb); have n1_ := Aside0.mk (blk_below (g := gb219) (o := .cells #[.int .i64 a2_0, .int .i64 a2_1, .slice A2_2 l2_2.length c2_2] 24 (0, 0)) (by (with_reducible repeat (first | refine blk_drewN ?_ _ | refine blk_drew ?_ | refine blk_alloc ?_ _)); exact BK219.out) hb); have n2_ := Aside0.mk (below_step (by repeat (first | (with_reducible first | exact HB.out | apply below_alloc | apply pw_below_drewN | apply below_drew1 | refine below_set ?_ GE219.out) | exact HB.out)) hb); have n3_ := Aside0.mk (hbox); have n4_ := Aside0.mk ((by rw [hg]; exact (below_size (by repeat (first | (with_reducible first | exact HB.out | apply below_alloc | apply pw_below_drewN | apply below_drew1 | refine below_set ?_ GE219.out) | exact HB.out))) : w.heap.size ≤ gb228)); have n5_ := Aside0.mk ((by rw [hg]; exact (below_size (by repeat (first | (with_reducible first | exact HB.out | apply below_alloc | apply pw_below_drewN | apply below_drew1 | refine below_set ?_ GE219.out) | exact HB.out))) : w.heap.size ≤ gb228)); have n6_ := Aside0.mk ((by rw [hg]; exact Nat.ne_of_lt (blk_lt (g := gb219) (o := .cells #[.int .i64 a2_0, .int .i64 a2_1, .slice A2_2 l2_2.length c2_2] 24 (0, 0)) (by (with_reducible repeat (first | refine blk_drewN ?_ _ | refine blk_drew ?_ | refine blk_alloc ?_ _)); exact BK219.out)) : gb219 ≠ gb228)); have n7_ := Aside0.mk ((by rw [hg]; exact Nat.ne_of_gt (blk_lt (g := gb219) (o := .cells #[.int .i64 a2_0, .int .i64 a2_1, .slice A2_2 l2_2.length c2_2] 24 (0, 0)) (by (with_reducible repeat (first | refine blk_drewN ?_ _ | refine blk_drew ?_ | refine blk_alloc ?_ _)); exact BK219.out)) : gb228 ≠ gb219)); clear HO226; clear BK219; clear HB; have HO226 := n0_; have BK219 := n1_; have HB := n2_; have BK228 := n3_; have GW228 := n4_; have GE228 := n5_; have NB219_228 := n6_; have NB228_219 := n7_; clear n0_ n1_ n2_ n3_ n4_ n5_ n6_ n7_; clear hb hbox hg; have hnb23 := NB228_219.out; have hnc23 := NB219_228.out; have hcz24_0 : w22.cell? ⟨gb228, 0, none⟩ = some (.int .i64 0) := (blk_cell BK228.out 0).trans rfl; have hcz24_1 : w22.cell? ⟨gb228, 1, none⟩ = some (.int .i64 0) := (blk_cell BK228.out 1).trans rfl; have hcz24_2 : w22.cell? ⟨gb228, 2, none⟩ = some (.slice none 0 0) := (blk_cell BK228.out 2).trans rfl; have hfz24_0 := blk_frozen BK228.out 0; have hfz24_1 := blk_frozen BK228.out 1; have hfz24_2 := blk_frozen BK228.out 2; obtain ⟨Ao25, co25, eo25⟩ := Kd.V_slice HO226.out; subst eo25) | ((with_reducible refine gate_callee (f := 11) rfl ?_); refine goesL_ (some 48) rfl rfl Try.func11 (by kernel_rfl) rfl #[.slice A1 l1.length c1] rfl (by (try simp only [List.map_toArray, List.map_cons, List.map_nil]); first | done | rfl | (simp only [List.length_drop, List.length_take]; rfl)) ?_; (with_reducible refine (term_Row.calls _ _ l1 t229 t230 t231 t234 _ ?side1 ?side2 A16.out).mono ?_); (case side1 => exact Kd.C_below HR1.out (by repeat (first | (with_reducible first | exact HB.out | apply below_alloc | apply pw_below_drewN | apply below_drew1 | refine below_set ?_ GE219.out | refine below_set ?_ GE228.out) | exact HB.out))); (case side2 => exact HC1.out); rintro e w26 ⟨v232, rfl, ho0, hb⟩; refine ⟨_, rfl, ?_⟩; have n0_ := Aside0.mk (Kd.V_below (by (with_reducible repeat (first | apply Kd.V_alloc | apply Kd.V_drewN | apply Kd.V_drew)); exact (Kd.V_mono (Kd.V_far (p := ⟨gb228, 2, none⟩) (Kd.V_far (p := ⟨gb228, 1, none⟩) (Kd.V_far (p := ⟨gb228, 0, none⟩) (Kd.V_mono HO226.out (fun k_ hk => (⟨hk, hk.2⟩ : _ ∧ k_ ≠ gb228))) (fun _ hk => hk.2) (.int .i64 t222)) (fun _ hk => hk.2) (.int .i64 t223)) (fun _ hk => hk.2) (.slice Ao25 t224.length co25)) (fun _ h_ => h_.1))) hb); have n1_ := Aside0.mk (Kd.V_lower (Kd.V_mono (ok' := fun k_ => k_ ≠ gb219 ∧ k_ ≠ gb228) ho0 (fun k_ hk_ => ⟨(Kd.freshB (g := gb219) (o := .cells #[.int .i64 a2_0, .int .i64 a2_1, .slice A2_2 l2_2.length c2_2] 24 (0, 0)) (by (with_reducible repeat (first | refine blk_drewN ?_ _ | refine blk_drew ?_ | refine blk_alloc ?_ _)); refine blk_far ?_ NB219_228.out _; (with_reducible repeat (first | refine blk_drewN ?_ _ | refine blk_drew ?_ | refine blk_alloc ?_ _)); refine blk_far ?_ NB219_228.out _; (with_reducible repeat (first | refine blk_drewN ?_ _ | refine blk_drew ?_ | refine blk_alloc ?_ _)); refine blk_far ?_ NB219_228.out _; (with_reducible repeat (first | refine blk_drewN ?_ _ | refine blk_drew ?_ | refine blk_alloc ?_ _)); exact BK219.out) k_ hk_), (Kd.freshB (g := gb228) (o := .cells #[.int .i64 t222, .int .i64 t223, .slice Ao25 t224.length co25] 24 (0, 0)) (by (with_reducible repeat (first | refine blk_drewN ?_ _ | refine blk_drew ?_ | refine blk_alloc ?_ _)); refine blk_put (cs := #[.int .i64 t222, .int .i64 t223, .slice none 0 0]) ?_ 2 _ rfl; (with_reducible repeat (first | refine blk_drewN ?_ _ | refine blk_drew ?_ | refine blk_alloc ?_ _)); refine blk_put (cs := #[.int .i64 t222, .int .i64 0, .slice none 0 0]) ?_ 1 _ rfl; (with_reducible repeat (first | refine blk_drewN ?_ _ | refine blk_drew ?_ | refine blk_alloc ?_ _)); refine blk_put (cs := #[.int .i64 0, .int .i64 0, .slice none 0 0]) ?_ 0 _ rfl; (with_reducible repeat (first | refine blk_drewN ?_ _ | refine blk_drew ?_ | refine blk_alloc ?_ _)); exact BK228.out) k_ hk_)⟩)) (below_size (by repeat (first | (with_reducible first | exact HB.out | apply below_alloc | apply pw_below_drewN | apply below_drew1 | refine below_set ?_ GE219.out | refine below_set ?_ GE228.out) | exact HB.out)))); have n2_ := Aside0.mk (blk_below (g := gb219) (o := .cells #[.int .i64 a2_0, .int .i64 a2_1, .slice A2_2 l2_2.length c2_2] 24 (0, 0)) (by (with_reducible repeat (first | refine blk_drewN ?_ _ | refine blk_drew ?_ | refine blk_alloc ?_ _)); refine blk_far ?_ NB219_228.out _; (with_reducible repeat (first | refine blk_drewN ?_ _ | refine blk_drew ?_ | refine blk_alloc ?_ _)); refine blk_far ?_ NB219_228.out _; (with_reducible repeat (first | refine blk_drewN ?_ _ | refine blk_drew ?_ | refine blk_alloc ?_ _)); refine blk_far ?_ NB219_228.out _; (with_reducible repeat (first | refine blk_drewN ?_ _ | refine blk_drew ?_ | refine blk_alloc ?_ _)); exact BK219.out) hb); have n3_ := Aside0.mk (blk_below (g := gb228) (o := .cells #[.int .i64 t222, .int .i64 t223, .slice Ao25 t224.length co25] 24 (0, 0)) (by (with_reducible repeat (first | refine blk_drewN ?_ _ | refine blk_drew ?_ | refine blk_alloc ?_ _)); refine blk_put (cs := #[.int .i64 t222, .int .i64 t223, .slice none 0 0]) ?_ 2 _ rfl; (with_reducible repeat (first | refine blk_drewN ?_ _ | refine blk_drew ?_ | refine blk_alloc ?_ _)); refine blk_put (cs := #[.int .i64 t222, .int .i64 0, .slice none 0 0]) ?_ 1 _ rfl; (with_reducible repeat (first | refine blk_drewN ?_ _ | refine blk_drew ?_ | refine blk_alloc ?_ _)); refine blk_put (cs := #[.int .i64 0, .int .i64 0, .slice none 0 0]) ?_ 0 _ rfl; (with_reducible repeat (first | refine blk_drewN ?_ _ | refine blk_drew ?_ | refine blk_alloc ?_ _)); exact BK228.out) hb); have n4_ := Aside0.mk (below_step (by repeat (first | (with_reducible first | exact HB.out | apply below_alloc | apply pw_below_drewN | apply below_drew1 | refine below_set ?_ GE219.out | refine below_set ?_ GE228.out) | exact HB.out)) hb); clear HO226; clear BK219; clear BK228; clear HB; have HO226 := n0_; have HO233 := n1_; have BK219 := n2_; have BK228 := n3_; have HB := n4_; clear n0_ n1_ n2_ n3_ n4_; (try clear hb); (try clear hb2); (try clear hk); (try clear hi); (try clear ho0)) | ((with_reducible refine gate_dst (N := 11) rfl ?_); (try (refine gate_guard (by rfl) ?_; dsimp only)); refine box_event ?hg (N := 11) ?hd (cs := #[.int .i64 0, .int .i64 0, .slice none 0 0]) (t := 24) ?hr ?_; (case hd => rfl); (case hg => rfl); (case hr => first | (go_simp; done) | (go_simp; rfl)); intro gb235 hg w27 hbox hb; have n0_ := Aside0.mk (Kd.V_below (Kd.V_elderB (by (with_reducible repeat (first | apply Kd.V_alloc | apply Kd.V_drewN | apply Kd.V_drew)); exact HO226.out) gb235 (Nat.le_of_eq hg.symm)) hb); have n1_ := Aside0.mk (Kd.V_below (Kd.V_elderB (by (with_reducible repeat (first | apply Kd.V_alloc | apply Kd.V_drewN | apply Kd.V_drew)); exact HO233.out) gb235 (Nat.le_of_eq hg.symm)) hb); have n2_ := Aside0.mk (blk_below (g := gb219) (o := .cells #[.int .i64 a2_0, .int .i64 a2_1, .slice A2_2 l2_2.length c2_2] 24 (0, 0)) (by (with_reducible repeat (first | refine blk_drewN ?_ _ | refine blk_drew ?_ | refine blk_alloc ?_ _)); exact BK219.out) hb); have n3_ := Aside0.mk (blk_below (g := gb228) (o := .cells #[.int .i64 t222, .int .i64 t223, .slice Ao25 t224.length co25] 24 (0, 0)) (by (with_reducible repeat (first | refine blk_drewN ?_ _ | refine blk_drew ?_ | refine blk_alloc ?_ _)); exact BK228.out) hb); have n4_ := Aside0.mk (below_step (by repeat (first | (with_reducible first | exact HB.out | apply below_alloc | apply pw_below_drewN | apply below_drew1 | refine below_set ?_ GE219.out | refine below_set ?_ GE228.out) | exact HB.out)) hb); have n5_ := Aside0.mk (hbox); have n6_ := Aside0.mk ((by rw [hg]; exact (below_size (by repeat (first | (with_reducible first | exact HB.out | apply below_alloc | apply pw_below_drewN | apply below_drew1 | refine below_set ?_ GE219.out | refine below_set ?_ GE228.out) | exact HB.out))) : w.heap.size ≤ gb235)); have n7_ := Aside0.mk ((by rw [hg]; exact (below_size (by repeat (first | (with_reducible first | exact HB.out | apply below_alloc | apply pw_below_drewN | apply below_drew1 | refine below_set ?_ GE219.out | refine below_set ?_ GE228.out) | exact HB.out))) : w.heap.size ≤ gb235)); have n8_ := Aside0.mk ((by rw [hg]; exact Nat.ne_of_lt (blk_lt (g := gb219) (o := .cells #[.int .i64 a2_0, .int .i64 a2_1, .slice A2_2 l2_2.length c2_2] 24 (0, 0)) (by (with_reducible repeat (first | refine blk_drewN ?_ _ | refine blk_drew ?_ | refine blk_alloc ?_ _)); exact BK219.out)) : gb219 ≠ gb235)); have n9_ := Aside0.mk ((by rw [hg]; exact Nat.ne_of_gt (blk_lt (g := gb219) (o := .cells #[.int .i64 a2_0, .int .i64 a2_1, .slice A2_2 l2_2.length c2_2] 24 (0, 0)) (by (with_reducible repeat (first | refine blk_drewN ?_ _ | refine blk_drew ?_ | refine blk_alloc ?_ _)); exact BK219.out)) : gb235 ≠ gb219)); have n10_ := Aside0.mk ((by rw [hg]; exact Nat.ne_of_lt (blk_lt (g := gb228) (o := .cells #[.int .i64 t222, .int .i64 t223, .slice Ao25 t224.length co25] 24 (0, 0)) (by (with_reducible repeat (first | refine blk_drewN ?_ _ | refine blk_drew ?_ | refine blk_alloc ?_ _)); exact BK228.out)) : gb228 ≠ gb235)); have n11_ := Aside0.mk ((by rw [hg]; exact Nat.ne_of_gt (blk_lt (g := gb228) (o := .cells #[.int .i64 t222, .int .i64 t223, .slice Ao25 t224.length co25] 24 (0, 0)) (by (with_reducible repeat (first | refine blk_drewN ?_ _ | refine blk_drew ?_ | refine blk_alloc ?_ _)); exact BK228.out)) : gb235 ≠ gb228)); clear HO226; clear HO233; clear BK219; clear BK228; clear HB; have HO226 := n0_; have HO233 := n1_; have BK219 := n2_; have BK228 := n3_; have HB := n4_; have BK235 := n5_; have GW235 := n6_; have GE235 := n7_; have NB219_235 := n8_; have NB235_219 := n9_; have NB228_235 := n10_; have NB235_228 := n11_; clear n0_ n1_ n2_ n3_ n4_ n5_ n6_ n7_ n8_ n9_ n10_ n11_; clear hb hbox hg; have hnb28 := NB235_219.out; have hnc28 := NB219_235.out; have hnb29 := NB235_228.out; have hnc29 := NB228_235.out; have hcz30_0 : w27.cell? ⟨gb235, 0, none⟩ = some (.int .i64 0) := (blk_cell BK235.out 0).trans rfl; have hcz30_1 : w27.cell? ⟨gb235, 1, none⟩ = some (.int .i64 0) := (blk_cell BK235.out 1).trans rfl; have hcz30_2 : w27.cell? ⟨gb235, 2, none⟩ = some (.slice none 0 0) := (blk_cell BK235.out 2).trans rfl; have hfz30_0 := blk_frozen BK235.out 0; have hfz30_1 := blk_frozen BK235.out 1; have hfz30_2 := blk_frozen BK235.out 2; obtain ⟨Ao31, co31, eo31⟩ := Kd.V_slice HO233.out; subst eo31; have hcz32_0 : w27.cell? ⟨gb228, 0, none⟩ = some (.int .i64 t222) := (blk_cell BK228.out 0).trans rfl; have hcz32_1 : w27.cell? ⟨gb228, 1, none⟩ = some (.int .i64 t223) := (blk_cell BK228.out 1).trans rfl; have hcz32_2 : w27.cell? ⟨gb228, 2, none⟩ = some (.slice Ao25 t224.length co25) := (blk_cell BK228.out 2).trans rfl; have hfz32_0 := blk_frozen BK228.out 0; have hfz32_1 := blk_frozen BK228.out 1; have hfz32_2 := blk_frozen BK228.out 2) | ((with_reducible refine gate_callee (f := 13) rfl ?_); refine goesL_ (some 53) rfl rfl Try.func13 (by kernel_rfl) rfl #[.agg #[.int .i64 t222, .int .i64 t223, .slice Ao25 t224.length co25]] rfl (by (try simp only [List.map_toArray, List.map_cons, List.map_nil]); first | done | rfl | (simp only [List.length_drop, List.length_take]; rfl)) ?_; (with_reducible refine (term_Unrow.calls t222 t223 _ _ t224 t236 t239 _ ?side1 ?side2 A17.out).mono ?_); (case side1 => refine (Kd.V_reads' (e := 24) (base := w.heap.size) (ok := fun k_ => ((k_ ≠ gb219 ∧ k_ ≠ gb228) ∧ k_ ≠ gb235)) (n := t224.length) (c := co25) ?_).2.2; exact (by (with_reducible repeat (first | apply Kd.V_alloc | apply Kd.V_drewN | apply Kd.V_drew)); exact (Kd.V_mono (Kd.V_far (p := ⟨gb235, 2, none⟩) (Kd.V_far (p := ⟨gb235, 1, none⟩) (Kd.V_far (p := ⟨gb235, 0, none⟩) (Kd.V_mono HO226.out (fun k_ hk => (⟨hk, hk.2⟩ : _ ∧ k_ ≠ gb235))) (fun _ hk => hk.2) (.int .i64 t229)) (fun _ hk => hk.2) (.int .i64 t230)) (fun _ hk => hk.2) (.slice Ao31 t231.length co31)) (fun _ h_ => h_.1)))); (case side2 => exact (Kd.V_reads' HO226.out).2.1); rintro e w33 ⟨v237, rfl, ho0, hb⟩; refine ⟨_, rfl, ?_⟩; have n0_ := Aside0.mk (Kd.V_elder' (by (with_reducible repeat (first | apply Kd.V_alloc | apply Kd.V_drewN | apply Kd.V_drew)); exact (Kd.V_mono (Kd.V_far (p := ⟨gb235, 2, none⟩) (Kd.V_far (p := ⟨gb235, 1, none⟩) (Kd.V_far (p := ⟨gb235, 0, none⟩) (Kd.V_mono HO226.out (fun k_ hk => (⟨hk, hk.2⟩ : _ ∧ k_ ≠ gb235))) (fun _ hk => hk.2) (.int .i64 t229)) (fun _ hk => hk.2) (.int .i64 t230)) (fun _ hk => hk.2) (.slice Ao31 t231.length co31)) (fun _ h_ => h_.1))) (Kd.R_base ho0) hb); have n1_ := Aside0.mk (Kd.V_elder' (by (with_reducible repeat (first | apply Kd.V_alloc | apply Kd.V_drewN | apply Kd.V_drew)); exact (Kd.V_mono (Kd.V_far (p := ⟨gb235, 2, none⟩) (Kd.V_far (p := ⟨gb235, 1, none⟩) (Kd.V_far (p := ⟨gb235, 0, none⟩) (Kd.V_mono HO233.out (fun k_ hk => (⟨hk, hk.2⟩ : _ ∧ k_ ≠ gb235))) (fun _ hk => hk.2) (.int .i64 t229)) (fun _ hk => hk.2) (.int .i64 t230)) (fun _ hk => hk.2) (.slice Ao31 t231.length co31)) (fun _ h_ => h_.1))) (Kd.R_base ho0) hb); have n2_ := Aside0.mk (Kd.R_lower ho0 (below_size (by repeat (first | (with_reducible first | exact HB.out | apply below_alloc | apply pw_below_drewN | apply below_drew1 | refine below_set ?_ GE219.out | refine below_set ?_ GE228.out | refine below_set ?_ GE235.out) | exact HB.out)))); have n3_ := Aside0.mk (blk_below (g := gb219) (o := .cells #[.int .i64 a2_0, .int .i64 a2_1, .slice A2_2 l2_2.length c2_2] 24 (0, 0)) (by (with_reducible repeat (first | refine blk_drewN ?_ _ | refine blk_drew ?_ | refine blk_alloc ?_ _)); refine blk_far ?_ NB219_235.out _; (with_reducible repeat (first | refine blk_drewN ?_ _ | refine blk_drew ?_ | refine blk_alloc ?_ _)); refine blk_far ?_ NB219_235.out _; (with_reducible repeat (first | refine blk_drewN ?_ _ | refine blk_drew ?_ | refine blk_alloc ?_ _)); refine blk_far ?_ NB219_235.out _; (with_reducible repeat (first | refine blk_drewN ?_ _ | refine blk_drew ?_ | refine blk_alloc ?_ _)); exact BK219.out) hb); have n4_ := Aside0.mk (blk_below (g := gb228) (o := .cells #[.int .i64 t222, .int .i64 t223, .slice Ao25 t224.length co25] 24 (0, 0)) (by (with_reducible repeat (first | refine blk_drewN ?_ _ | refine blk_drew ?_ | refine blk_alloc ?_ _)); refine blk_far ?_ NB228_235.out _; (with_reducible repeat (first | refine blk_drewN ?_ _ | refine blk_drew ?_ | refine blk_alloc ?_ _)); refine blk_far ?_ NB228_235.out _; (with_reducible repeat (first | refine blk_drewN ?_ _ | refine blk_drew ?_ | refine blk_alloc ?_ _)); refine blk_far ?_ NB228_235.out _; (with_reducible repeat (first | refine blk_drewN ?_ _ | refine blk_drew ?_ | refine blk_alloc ?_ _)); exact BK228.out) hb); have n5_ := Aside0.mk (blk_below (g := gb235) (o := .cells #[.int .i64 t229, .int .i64 t230, .slice Ao31 t231.length co31] 24 (0, 0)) (by (with_reducible repeat (first | refine blk_drewN ?_ _ | refine blk_drew ?_ | refine blk_alloc ?_ _)); refine blk_put (cs := #[.int .i64 t229, .int .i64 t230, .slice none 0 0]) ?_ 2 _ rfl; (with_reducible repeat (first | refine blk_drewN ?_ _ | refine blk_drew ?_ | refine blk_alloc ?_ _)); refine blk_put (cs := #[.int .i64 t229, .int .i64 0, .slice none 0 0]) ?_ 1 _ rfl; (with_reducible repeat (first | refine blk_drewN ?_ _ | refine blk_drew ?_ | refine blk_alloc ?_ _)); refine blk_put (cs := #[.int .i64 0, .int .i64 0, .slice none 0 0]) ?_ 0 _ rfl; (with_reducible repeat (first | refine blk_drewN ?_ _ | refine blk_drew ?_ | refine blk_alloc ?_ _)); exact BK235.out) hb); have n6_ := Aside0.mk (below_step (by repeat (first | (with_reducible first | exact HB.out | apply below_alloc | apply pw_below_drewN | apply below_drew1 | refine below_set ?_ GE219.out | refine below_set ?_ GE228.out | refine below_set ?_ GE235.out) | exact HB.out)) hb); clear HO226; clear HO233; clear BK219; clear BK228; clear BK235; clear HB; have HO226 := n0_; have HO233 := n1_; have HO238 := n2_; have BK219 := n3_; have BK228 := n4_; have BK235 := n5_; have HB := n6_; clear n0_ n1_ n2_ n3_ n4_ n5_ n6_; (try clear hb); (try clear hb2); (try clear hk); (try clear hi); (try clear ho0); obtain ⟨Ao34, co34, eo34⟩ := Kd.R_slice HO238.out; subst eo34) | ((with_reducible refine gate_callee (f := 18) rfl ?_); refine goesL_ (some 58) rfl rfl Try.func18 (by kernel_rfl) rfl #[.slice Ao34 t236.length co34, .slice A0 l0.length c0] rfl (by (try simp only [List.map_toArray, List.map_cons, List.map_nil]); first | done | rfl | (simp only [List.length_drop, List.length_take]; rfl)) ?_; (with_reducible refine (pelicanref05_Ints.calls kj5 _ _ t236 _ _ l0 t240 _ ?side1 ?side2 ?side3 ?side4 A18.out).mono ?_); (case side1 => repeat (first | exact (Kd.R_reads' HO238.out).2.2 | (with_reducible refine Kd.C_alloc ?_ _) | (with_reducible refine Kd.C_drewN ?_ _) | (with_reducible refine Kd.C_drew ?_))); (case side2 => exact (Kd.R_reads' HO238.out).2.1); (case side3 => repeat (first | exact (Kd.C_below HR0.out HB.out) | (with_reducible refine Kd.C_alloc ?_ _) | (with_reducible refine Kd.C_drewN ?_ _) | (with_reducible refine Kd.C_drew ?_))); (case side4 => exact HC0.out); rintro e w' ⟨rfl, ⟨nd, rfl⟩⟩; refine ⟨_, rfl, ?_⟩) | ((with_reducible refine gate_callee (f := 18) rfl ?_); refine goesL_ (some 61) rfl rfl Try.func18 (by kernel_rfl) rfl #[.slice A0 l0.length c0, .slice A1 l1.length c1] rfl (by (try simp only [List.map_toArray, List.map_cons, List.map_nil]); first | done | rfl | (simp only [List.length_drop, List.length_take]; rfl)) ?_; (with_reducible refine (pelicanref05_Ints.calls kj5 _ _ l0 _ _ l1 t241 _ ?side1 ?side2 ?side3 ?side4 A19.out).mono ?_); (case side1 => repeat (first | exact (Kd.C_below HR0.out (by repeat (first | (with_reducible first | exact HB.out | apply below_alloc | apply pw_below_drewN | apply below_drew1 | refine below_set ?_ GE219.out | refine below_set ?_ GE228.out | refine below_set ?_ GE235.out) | exact HB.out))) | (with_reducible refine Kd.C_alloc ?_ _) | (with_reducible refine Kd.C_drewN ?_ _) | (with_reducible refine Kd.C_drew ?_))); (case side2 => exact HC0.out); (case side3 => repeat (first | exact (Kd.C_below HR1.out (by repeat (first | (with_reducible first | exact HB.out | apply below_alloc | apply pw_below_drewN | apply below_drew1 | refine below_set ?_ GE219.out | refine below_set ?_ GE228.out | refine below_set ?_ GE235.out) | exact HB.out))) | (with_reducible refine Kd.C_alloc ?_ _) | (with_reducible refine Kd.C_drewN ?_ _) | (with_reducible refine Kd.C_drew ?_))); (case side4 => exact HC1.out); rintro e w' ⟨rfl, ⟨nd, rfl⟩⟩; refine ⟨_, rfl, ?_⟩))
        (try simp only [Act.put, List.setIfInBounds_toArray, List.set_cons_zero, List.set_cons_succ])
        go_cut [88] (fun v88 wc => ∃ (kq : Nat) (x88_19 : Bool), v88 = .bool x88_19 ∧ Aside0 (pelicanlaw05_TermRow.j1 kq x88_19 a2_0 a2_1 l2_2 = some r) ∧ Aside0 (kq ≤ kj5) ∧ Aside0 (Kd.V k24 24 wc w.heap.size (fun k_ => k_ ≠ gb219 ∧ k_ ≠ gb228 ∧ k_ ≠ gb235) (.slice Ao25 t224.length co25) t224) ∧ Aside0 (Kd.V k24 24 wc w.heap.size (fun k_ => k_ ≠ gb219 ∧ k_ ≠ gb228 ∧ k_ ≠ gb235) (.slice Ao31 t231.length co31) t231) ∧ Aside0 (wc.heap[gb219]? = some (.cells #[.int .i64 a2_0, .int .i64 a2_1, (.slice A2_2 l2_2.length c2_2)] 24 (0, 0))) ∧ Aside0 (wc.heap[gb228]? = some (.cells #[.int .i64 t222, .int .i64 t223, (.slice Ao25 t224.length co25)] 24 (0, 0))) ∧ Aside0 (wc.heap[gb235]? = some (.cells #[.int .i64 t229, .int .i64 t230, (.slice Ao31 t231.length co31)] 24 (0, 0))) ∧ Aside0 (Below w.heap.size w wc))
        case first =>
          have H := HC20.out
          clear HC20
          by_cases c35 : t227 = true
          · subst c35
            have H1 : (if t239 = true then (if t240 = true then ((term_May.f t222 t223 t224).bind fun t242 => (if t242 = true then (if t234 = true then ((term_Same.f t222 t223 t224 t229 t230 t231).bind fun t243 => (pelicanlaw05_TermRow.j1 kj5 (t243 != t241) a2_0 a2_1 l2_2)) else (pelicanlaw05_TermRow.j1 kj5 false a2_0 a2_1 l2_2)) else (pelicanlaw05_TermRow.j1 kj5 true a2_0 a2_1 l2_2))) else (pelicanlaw05_TermRow.j1 kj5 true a2_0 a2_1 l2_2)) else (pelicanlaw05_TermRow.j1 kj5 true a2_0 a2_1 l2_2)) = some r := by rw [if_pos rfl] at H; exact H
            clear H
            have H := H1
            clear H1
            by_cases c36 : t239 = true
            · subst c36
              have H1 : (if t240 = true then ((term_May.f t222 t223 t224).bind fun t242 => (if t242 = true then (if t234 = true then ((term_Same.f t222 t223 t224 t229 t230 t231).bind fun t243 => (pelicanlaw05_TermRow.j1 kj5 (t243 != t241) a2_0 a2_1 l2_2)) else (pelicanlaw05_TermRow.j1 kj5 false a2_0 a2_1 l2_2)) else (pelicanlaw05_TermRow.j1 kj5 true a2_0 a2_1 l2_2))) else (pelicanlaw05_TermRow.j1 kj5 true a2_0 a2_1 l2_2)) = some r := by rw [if_pos rfl] at H; exact H
              clear H
              have H := H1
              clear H1
              by_cases c37 : t240 = true
              · subst c37
                have H1 : ((term_May.f t222 t223 t224).bind fun t242 => (if t242 = true then (if t234 = true then ((term_Same.f t222 t223 t224 t229 t230 t231).bind fun t243 => (pelicanlaw05_TermRow.j1 kj5 (t243 != t241) a2_0 a2_1 l2_2)) else (pelicanlaw05_TermRow.j1 kj5 false a2_0 a2_1 l2_2)) else (pelicanlaw05_TermRow.j1 kj5 true a2_0 a2_1 l2_2))) = some r := by rw [if_pos rfl] at H; exact H
                clear H
                have H := H1
                clear H1
                replace H := Option.bind_eq_some_iff.mp H
                obtain ⟨t242, A380, H⟩ := H
                replace H : (if t242 = true then (if t234 = true then ((term_Same.f t222 t223 t224 t229 t230 t231).bind fun t243 => (pelicanlaw05_TermRow.j1 kj5 (t243 != t241) a2_0 a2_1 l2_2)) else (pelicanlaw05_TermRow.j1 kj5 false a2_0 a2_1 l2_2)) else (pelicanlaw05_TermRow.j1 kj5 true a2_0 a2_1 l2_2)) = some r := H
                have A38 := Aside0.mk A380
                clear A380
                by_cases c39 : t242 = true
                · subst c39
                  have H1 : (if t234 = true then ((term_Same.f t222 t223 t224 t229 t230 t231).bind fun t243 => (pelicanlaw05_TermRow.j1 kj5 (t243 != t241) a2_0 a2_1 l2_2)) else (pelicanlaw05_TermRow.j1 kj5 false a2_0 a2_1 l2_2)) = some r := by rw [if_pos rfl] at H; exact H
                  clear H
                  have H := H1
                  clear H1
                  by_cases c40 : t234 = true
                  · subst c40
                    have H1 : ((term_Same.f t222 t223 t224 t229 t230 t231).bind fun t243 => (pelicanlaw05_TermRow.j1 kj5 (t243 != t241) a2_0 a2_1 l2_2)) = some r := by rw [if_pos rfl] at H; exact H
                    clear H
                    have H := H1
                    clear H1
                    replace H := Option.bind_eq_some_iff.mp H
                    obtain ⟨t243, A410, H⟩ := H
                    replace H : (pelicanlaw05_TermRow.j1 kj5 (t243 != t241) a2_0 a2_1 l2_2) = some r := H
                    have A41 := Aside0.mk A410
                    clear A410
                    have H' := Aside0.mk H
                    clear H
                    have hnb42 := NB228_219.out
                    have hnc42 := NB219_228.out
                    have hnb43 := NB228_235.out
                    have hnc43 := NB235_228.out
                    have hcz44_0 : w33.cell? ⟨gb228, 0, none⟩ = some (.int .i64 t222) := (blk_cell BK228.out 0).trans rfl
                    have hcz44_1 : w33.cell? ⟨gb228, 1, none⟩ = some (.int .i64 t223) := (blk_cell BK228.out 1).trans rfl
                    have hcz44_2 : w33.cell? ⟨gb228, 2, none⟩ = some (.slice Ao25 t224.length co25) := (blk_cell BK228.out 2).trans rfl
                    have hfz44_0 := blk_frozen BK228.out 0
                    have hfz44_1 := blk_frozen BK228.out 1
                    have hfz44_2 := blk_frozen BK228.out 2
                    go_wp2_with (first | (go_at_call 23; (with_reducible refine (term_May.calls t222 t223 _ _ t224 true _ ?side1 ?side2 A38.out).mono ?_); (case side1 => repeat (first | exact (Kd.V_reads' HO226.out).2.2 | (with_reducible refine Kd.C_alloc ?_ _) | (with_reducible refine Kd.C_drewN ?_ _) | (with_reducible refine Kd.C_drew ?_))); (case side2 => exact (Kd.V_reads' HO226.out).2.1); rintro e w45 ⟨rfl, hb⟩; have n0_ := Aside0.mk (Kd.V_below (by (with_reducible repeat (first | apply Kd.V_alloc | apply Kd.V_drewN | apply Kd.V_drew)); exact HO226.out) hb); have n1_ := Aside0.mk (Kd.V_below (by (with_reducible repeat (first | apply Kd.V_alloc | apply Kd.V_drewN | apply Kd.V_drew)); exact HO233.out) hb); have n2_ := Aside0.mk (Kd.R_below (by (with_reducible repeat (first | apply Kd.R_alloc | apply Kd.R_drewN | apply Kd.R_drew)); exact HO238.out) hb); have n3_ := Aside0.mk (blk_below (g := gb219) (o := .cells #[.int .i64 a2_0, .int .i64 a2_1, .slice A2_2 l2_2.length c2_2] 24 (0, 0)) (by (with_reducible repeat (first | refine blk_drewN ?_ _ | refine blk_drew ?_ | refine blk_alloc ?_ _)); exact BK219.out) hb); have n4_ := Aside0.mk (blk_below (g := gb228) (o := .cells #[.int .i64 t222, .int .i64 t223, .slice Ao25 t224.length co25] 24 (0, 0)) (by (with_reducible repeat (first | refine blk_drewN ?_ _ | refine blk_drew ?_ | refine blk_alloc ?_ _)); exact BK228.out) hb); have n5_ := Aside0.mk (blk_below (g := gb235) (o := .cells #[.int .i64 t229, .int .i64 t230, .slice Ao31 t231.length co31] 24 (0, 0)) (by (with_reducible repeat (first | refine blk_drewN ?_ _ | refine blk_drew ?_ | refine blk_alloc ?_ _)); exact BK235.out) hb); have n6_ := Aside0.mk (below_step (by repeat (first | (with_reducible first | exact HB.out | apply below_alloc | apply pw_below_drewN | apply below_drew1 | refine below_set ?_ GE219.out | refine below_set ?_ GE228.out | refine below_set ?_ GE235.out) | exact HB.out)) hb); clear HO226; clear HO233; clear HO238; clear BK219; clear BK228; clear BK235; clear HB; have HO226 := n0_; have HO233 := n1_; have HO238 := n2_; have BK219 := n3_; have BK228 := n4_; have BK235 := n5_; have HB := n6_; clear n0_ n1_ n2_ n3_ n4_ n5_ n6_; (try clear hb); (try clear hb2); (try clear hk); (try clear hi); have hcz46_0 : w45.cell? ⟨gb228, 0, none⟩ = some (.int .i64 t222) := (blk_cell BK228.out 0).trans rfl; have hcz46_1 : w45.cell? ⟨gb228, 1, none⟩ = some (.int .i64 t223) := (blk_cell BK228.out 1).trans rfl; have hcz46_2 : w45.cell? ⟨gb228, 2, none⟩ = some (.slice Ao25 t224.length co25) := (blk_cell BK228.out 2).trans rfl; have hfz46_0 := blk_frozen BK228.out 0; have hfz46_1 := blk_frozen BK228.out 1; have hfz46_2 := blk_frozen BK228.out 2; have hnb47 := NB235_219.out; have hnc47 := NB219_235.out; have hcz48_0 : w45.cell? ⟨gb235, 0, none⟩ = some (.int .i64 t229) := (blk_cell BK235.out 0).trans rfl; have hcz48_1 : w45.cell? ⟨gb235, 1, none⟩ = some (.int .i64 t230) := (blk_cell BK235.out 1).trans rfl; have hcz48_2 : w45.cell? ⟨gb235, 2, none⟩ = some (.slice Ao31 t231.length co31) := (blk_cell BK235.out 2).trans rfl; have hfz48_0 := blk_frozen BK235.out 0; have hfz48_1 := blk_frozen BK235.out 1; have hfz48_2 := blk_frozen BK235.out 2) | (go_at_call 24; (with_reducible refine (term_Same.calls t222 t223 _ _ t224 t229 t230 _ _ t231 t243 _ ?side1 ?side2 ?side3 ?side4 A41.out).mono ?_); (case side1 => repeat (first | exact (Kd.V_reads' HO226.out).2.2 | (with_reducible refine Kd.C_alloc ?_ _) | (with_reducible refine Kd.C_drewN ?_ _) | (with_reducible refine Kd.C_drew ?_))); (case side2 => exact (Kd.V_reads' HO226.out).2.1); (case side3 => repeat (first | exact (Kd.V_reads' HO233.out).2.2 | (with_reducible refine Kd.C_alloc ?_ _) | (with_reducible refine Kd.C_drewN ?_ _) | (with_reducible refine Kd.C_drew ?_))); (case side4 => exact (Kd.V_reads' HO233.out).2.1); rintro e w49 ⟨rfl, hb⟩; have n0_ := Aside0.mk (Kd.V_below (by (with_reducible repeat (first | apply Kd.V_alloc | apply Kd.V_drewN | apply Kd.V_drew)); exact HO226.out) hb); have n1_ := Aside0.mk (Kd.V_below (by (with_reducible repeat (first | apply Kd.V_alloc | apply Kd.V_drewN | apply Kd.V_drew)); exact HO233.out) hb); have n2_ := Aside0.mk (Kd.R_below (by (with_reducible repeat (first | apply Kd.R_alloc | apply Kd.R_drewN | apply Kd.R_drew)); exact HO238.out) hb); have n3_ := Aside0.mk (blk_below (g := gb219) (o := .cells #[.int .i64 a2_0, .int .i64 a2_1, .slice A2_2 l2_2.length c2_2] 24 (0, 0)) (by (with_reducible repeat (first | refine blk_drewN ?_ _ | refine blk_drew ?_ | refine blk_alloc ?_ _)); exact BK219.out) hb); have n4_ := Aside0.mk (blk_below (g := gb228) (o := .cells #[.int .i64 t222, .int .i64 t223, .slice Ao25 t224.length co25] 24 (0, 0)) (by (with_reducible repeat (first | refine blk_drewN ?_ _ | refine blk_drew ?_ | refine blk_alloc ?_ _)); exact BK228.out) hb); have n5_ := Aside0.mk (blk_below (g := gb235) (o := .cells #[.int .i64 t229, .int .i64 t230, .slice Ao31 t231.length co31] 24 (0, 0)) (by (with_reducible repeat (first | refine blk_drewN ?_ _ | refine blk_drew ?_ | refine blk_alloc ?_ _)); exact BK235.out) hb); have n6_ := Aside0.mk (below_step (by repeat (first | (with_reducible first | exact HB.out | apply below_alloc | apply pw_below_drewN | apply below_drew1 | refine below_set ?_ GE219.out | refine below_set ?_ GE228.out | refine below_set ?_ GE235.out) | exact HB.out)) hb); clear HO226; clear HO233; clear HO238; clear BK219; clear BK228; clear BK235; clear HB; have HO226 := n0_; have HO233 := n1_; have HO238 := n2_; have BK219 := n3_; have BK228 := n4_; have BK235 := n5_; have HB := n6_; clear n0_ n1_ n2_ n3_ n4_ n5_ n6_; (try clear hb); (try clear hb2); (try clear hk); (try clear hi)))
                    go_meet
                    case rel => exact ⟨_, ((t243 != t241)), (by first | rfl | (simp; done) | (simp [*]; done)), H', ⟨by have := HJ5.out; first | omega | exact Nat.le_refl _⟩, ⟨by (with_reducible repeat (first | apply Kd.V_alloc | apply Kd.V_drewN | apply Kd.V_drew)); exact Kd.V_mono HO226.out (fun _ hk => ⟨hk.1.1.1, ⟨hk.1.1.2, hk.1.2⟩⟩)⟩, ⟨by (with_reducible repeat (first | apply Kd.V_alloc | apply Kd.V_drewN | apply Kd.V_drew)); exact Kd.V_mono HO233.out (fun _ hk => ⟨hk.1.1.1, ⟨hk.1.1.2, hk.1.2⟩⟩)⟩, ⟨by (with_reducible repeat (first | refine blk_drewN ?_ _ | refine blk_drew ?_ | refine blk_alloc ?_ _)); exact BK219.out⟩, ⟨by (with_reducible repeat (first | refine blk_drewN ?_ _ | refine blk_drew ?_ | refine blk_alloc ?_ _)); exact BK228.out⟩, ⟨by (with_reducible repeat (first | refine blk_drewN ?_ _ | refine blk_drew ?_ | refine blk_alloc ?_ _)); exact BK235.out⟩, ⟨by repeat (first | (with_reducible first | exact HB.out | apply below_alloc | apply pw_below_drewN | apply below_drew1 | refine below_set ?_ GE219.out | refine below_set ?_ GE228.out | refine below_set ?_ GE235.out) | exact HB.out)⟩⟩
                  · replace c40 := Bool.eq_false_iff.mpr c40
                    subst c40
                    have H1 : (pelicanlaw05_TermRow.j1 kj5 false a2_0 a2_1 l2_2) = some r := by rw [if_neg (show ¬ (false = true) by decide)] at H; exact H
                    clear H
                    have H := H1
                    clear H1
                    have H' := Aside0.mk H
                    clear H
                    have hnb50 := NB228_219.out
                    have hnc50 := NB219_228.out
                    have hnb51 := NB228_235.out
                    have hnc51 := NB235_228.out
                    have hcz52_0 : w33.cell? ⟨gb228, 0, none⟩ = some (.int .i64 t222) := (blk_cell BK228.out 0).trans rfl
                    have hcz52_1 : w33.cell? ⟨gb228, 1, none⟩ = some (.int .i64 t223) := (blk_cell BK228.out 1).trans rfl
                    have hcz52_2 : w33.cell? ⟨gb228, 2, none⟩ = some (.slice Ao25 t224.length co25) := (blk_cell BK228.out 2).trans rfl
                    have hfz52_0 := blk_frozen BK228.out 0
                    have hfz52_1 := blk_frozen BK228.out 1
                    have hfz52_2 := blk_frozen BK228.out 2
                    go_wp2_with (first | (go_at_call 23; (with_reducible refine (term_May.calls t222 t223 _ _ t224 true _ ?side1 ?side2 A38.out).mono ?_); (case side1 => repeat (first | exact (Kd.V_reads' HO226.out).2.2 | (with_reducible refine Kd.C_alloc ?_ _) | (with_reducible refine Kd.C_drewN ?_ _) | (with_reducible refine Kd.C_drew ?_))); (case side2 => exact (Kd.V_reads' HO226.out).2.1); rintro e w53 ⟨rfl, hb⟩; have n0_ := Aside0.mk (Kd.V_below (by (with_reducible repeat (first | apply Kd.V_alloc | apply Kd.V_drewN | apply Kd.V_drew)); exact HO226.out) hb); have n1_ := Aside0.mk (Kd.V_below (by (with_reducible repeat (first | apply Kd.V_alloc | apply Kd.V_drewN | apply Kd.V_drew)); exact HO233.out) hb); have n2_ := Aside0.mk (Kd.R_below (by (with_reducible repeat (first | apply Kd.R_alloc | apply Kd.R_drewN | apply Kd.R_drew)); exact HO238.out) hb); have n3_ := Aside0.mk (blk_below (g := gb219) (o := .cells #[.int .i64 a2_0, .int .i64 a2_1, .slice A2_2 l2_2.length c2_2] 24 (0, 0)) (by (with_reducible repeat (first | refine blk_drewN ?_ _ | refine blk_drew ?_ | refine blk_alloc ?_ _)); exact BK219.out) hb); have n4_ := Aside0.mk (blk_below (g := gb228) (o := .cells #[.int .i64 t222, .int .i64 t223, .slice Ao25 t224.length co25] 24 (0, 0)) (by (with_reducible repeat (first | refine blk_drewN ?_ _ | refine blk_drew ?_ | refine blk_alloc ?_ _)); exact BK228.out) hb); have n5_ := Aside0.mk (blk_below (g := gb235) (o := .cells #[.int .i64 t229, .int .i64 t230, .slice Ao31 t231.length co31] 24 (0, 0)) (by (with_reducible repeat (first | refine blk_drewN ?_ _ | refine blk_drew ?_ | refine blk_alloc ?_ _)); exact BK235.out) hb); have n6_ := Aside0.mk (below_step (by repeat (first | (with_reducible first | exact HB.out | apply below_alloc | apply pw_below_drewN | apply below_drew1 | refine below_set ?_ GE219.out | refine below_set ?_ GE228.out | refine below_set ?_ GE235.out) | exact HB.out)) hb); clear HO226; clear HO233; clear HO238; clear BK219; clear BK228; clear BK235; clear HB; have HO226 := n0_; have HO233 := n1_; have HO238 := n2_; have BK219 := n3_; have BK228 := n4_; have BK235 := n5_; have HB := n6_; clear n0_ n1_ n2_ n3_ n4_ n5_ n6_; (try clear hb); (try clear hb2); (try clear hk); (try clear hi)))
                    go_meet
                    case rel => exact ⟨_, (false), (by first | rfl | (simp; done) | (simp [*]; done)), H', ⟨by have := HJ5.out; first | omega | exact Nat.le_refl _⟩, ⟨by (with_reducible repeat (first | apply Kd.V_alloc | apply Kd.V_drewN | apply Kd.V_drew)); exact Kd.V_mono HO226.out (fun _ hk => ⟨hk.1.1.1, ⟨hk.1.1.2, hk.1.2⟩⟩)⟩, ⟨by (with_reducible repeat (first | apply Kd.V_alloc | apply Kd.V_drewN | apply Kd.V_drew)); exact Kd.V_mono HO233.out (fun _ hk => ⟨hk.1.1.1, ⟨hk.1.1.2, hk.1.2⟩⟩)⟩, ⟨by (with_reducible repeat (first | refine blk_drewN ?_ _ | refine blk_drew ?_ | refine blk_alloc ?_ _)); exact BK219.out⟩, ⟨by (with_reducible repeat (first | refine blk_drewN ?_ _ | refine blk_drew ?_ | refine blk_alloc ?_ _)); exact BK228.out⟩, ⟨by (with_reducible repeat (first | refine blk_drewN ?_ _ | refine blk_drew ?_ | refine blk_alloc ?_ _)); exact BK235.out⟩, ⟨by repeat (first | (with_reducible first | exact HB.out | apply below_alloc | apply pw_below_drewN | apply below_drew1 | refine below_set ?_ GE219.out | refine below_set ?_ GE228.out | refine below_set ?_ GE235.out) | exact HB.out)⟩⟩
                · replace c39 := Bool.eq_false_iff.mpr c39
                  subst c39
                  have H1 : (pelicanlaw05_TermRow.j1 kj5 true a2_0 a2_1 l2_2) = some r := by rw [if_neg (show ¬ (false = true) by decide)] at H; exact H
                  exact absurd ((pelicanlaw05_TermRow.j1_dead H1).symm.trans hr_.out) (by decide)
              · replace c37 := Bool.eq_false_iff.mpr c37
                subst c37
                have H1 : (pelicanlaw05_TermRow.j1 kj5 true a2_0 a2_1 l2_2) = some r := by rw [if_neg (show ¬ (false = true) by decide)] at H; exact H
                exact absurd ((pelicanlaw05_TermRow.j1_dead H1).symm.trans hr_.out) (by decide)
            · replace c36 := Bool.eq_false_iff.mpr c36
              subst c36
              have H1 : (pelicanlaw05_TermRow.j1 kj5 true a2_0 a2_1 l2_2) = some r := by rw [if_neg (show ¬ (false = true) by decide)] at H; exact H
              exact absurd ((pelicanlaw05_TermRow.j1_dead H1).symm.trans hr_.out) (by decide)
          · replace c35 := Bool.eq_false_iff.mpr c35
            subst c35
            have H1 : (pelicanlaw05_TermRow.j1 kj5 false a2_0 a2_1 l2_2) = some r := by rw [if_neg (show ¬ (false = true) by decide)] at H; exact H
            clear H
            have H := H1
            clear H1
            have H' := Aside0.mk H
            clear H
            go_wp2
            go_meet
            case rel => exact ⟨_, (false), (by first | rfl | (simp; done) | (simp [*]; done)), H', ⟨by have := HJ5.out; first | omega | exact Nat.le_refl _⟩, ⟨by (with_reducible repeat (first | apply Kd.V_alloc | apply Kd.V_drewN | apply Kd.V_drew)); exact Kd.V_mono HO226.out (fun _ hk => ⟨hk.1.1.1, ⟨hk.1.1.2, hk.1.2⟩⟩)⟩, ⟨by (with_reducible repeat (first | apply Kd.V_alloc | apply Kd.V_drewN | apply Kd.V_drew)); exact Kd.V_mono HO233.out (fun _ hk => ⟨hk.1.1.1, ⟨hk.1.1.2, hk.1.2⟩⟩)⟩, ⟨by (with_reducible repeat (first | refine blk_drewN ?_ _ | refine blk_drew ?_ | refine blk_alloc ?_ _)); exact BK219.out⟩, ⟨by (with_reducible repeat (first | refine blk_drewN ?_ _ | refine blk_drew ?_ | refine blk_alloc ?_ _)); exact BK228.out⟩, ⟨by (with_reducible repeat (first | refine blk_drewN ?_ _ | refine blk_drew ?_ | refine blk_alloc ?_ _)); exact BK235.out⟩, ⟨by repeat (first | (with_reducible first | exact HB.out | apply below_alloc | apply pw_below_drewN | apply below_drew1 | refine below_set ?_ GE219.out | refine below_set ?_ GE228.out | refine below_set ?_ GE235.out) | exact HB.out)⟩⟩
        case rest =>
          clear HC20
          try clear c1
          try clear c2
          try clear p2
          try clear c3
          try clear c4
          try clear c5
          try clear c9
          try clear c10
          try clear c11
          try clear c12
          try clear c13
          try clear c13b0
          try clear c13b1
          try clear c14
          try clear c18
          try clear c23
          try clear c28
          try clear c29
          try clear c35
          try clear c36
          try clear c37
          try clear c39
          try clear c40
          try clear c42
          try clear c43
          try clear c47
          try clear c50
          try clear c51
          try clear c54
          try clear c55
          try clear hcz24_0
          try clear hcz24_1
          try clear hcz24_2
          try clear hcz30_0
          try clear hcz30_1
          try clear hcz30_2
          try clear hcz32_0
          try clear hcz32_1
          try clear hcz32_2
          try clear hcz44_0
          try clear hcz44_1
          try clear hcz44_2
          try clear hcz46_0
          try clear hcz46_1
          try clear hcz46_2
          try clear hcz48_0
          try clear hcz48_1
          try clear hcz48_2
          try clear hcz52_0
          try clear hcz52_1
          try clear hcz52_2
          try clear hcz56_0
          try clear hcz56_1
          try clear hcz56_2
          try clear hcz9_0
          try clear hcz9_1
          try clear hcz9_2
          try clear hfz24_0
          try clear hfz24_1
          try clear hfz24_2
          try clear hfz30_0
          try clear hfz30_1
          try clear hfz30_2
          try clear hfz32_0
          try clear hfz32_1
          try clear hfz32_2
          try clear hfz44_0
          try clear hfz44_1
          try clear hfz44_2
          try clear hfz46_0
          try clear hfz46_1
          try clear hfz46_2
          try clear hfz48_0
          try clear hfz48_1
          try clear hfz48_2
          try clear hfz52_0
          try clear hfz52_1
          try clear hfz52_2
          try clear hfz56_0
          try clear hfz56_1
          try clear hfz56_2
          try clear hfz9_0
          try clear hfz9_1
          try clear hfz9_2
          try clear p2
          obtain ⟨kq, x88_19, rfl, HA, HJ19, HO_229002, HO_236002, BK219, BK228, BK235, HB⟩ := hcut
          cases kq with
          | zero => exact absurd HA.out (by simp [pelicanlaw05_TermRow.j1])
          | succ kj19 =>
            have H := HA.out
            clear HA
            simp only [pelicanlaw05_TermRow.j1] at H
            by_cases c58 : x88_19 = true
            · subst c58
              have H1 : (some false) = some r := by rw [if_pos rfl] at H; exact H
              clear H
              have H := H1
              clear H1
              exact absurd ((Option.some.inj H).trans hr_.out) (by decide)
            · replace c58 := Bool.eq_false_iff.mpr c58
              subst c58
              have H1 : ((term_Unrow.f a2_0 a2_1 l2_2).bind fun bt244 => ((term_Row.f bt244.1).bind fun bt248 => (if bt244.2 = true then (if bt248.2.2.2 = true then ((term_Same.f bt248.1 bt248.2.1 bt248.2.2.1 a2_0 a2_1 l2_2).bind fun t255 => (some t255)) else (some false)) else (some true)))) = some r := by rw [if_neg (show ¬ (false = true) by decide)] at H; exact H
              clear H
              have H := H1
              clear H1
              replace H := Option.bind_eq_some_iff.mp H
              obtain ⟨⟨t244, t247⟩, A590, H⟩ := H
              replace H : ((term_Row.f t244).bind fun bt248 => (if t247 = true then (if bt248.2.2.2 = true then ((term_Same.f bt248.1 bt248.2.1 bt248.2.2.1 a2_0 a2_1 l2_2).bind fun t255 => (some t255)) else (some false)) else (some true))) = some r := H
              have A59 := Aside0.mk A590
              clear A590
              replace H := Option.bind_eq_some_iff.mp H
              obtain ⟨⟨t248, t249, t250, t253⟩, A600, H⟩ := H
              replace H : (if t247 = true then (if t253 = true then ((term_Same.f t248 t249 t250 a2_0 a2_1 l2_2).bind fun t255 => (some t255)) else (some false)) else (some true)) = some r := H
              have A60 := Aside0.mk A600
              clear A600
              by_cases c61 : t247 = true
              · subst c61
                have H1 : (if t253 = true then ((term_Same.f t248 t249 t250 a2_0 a2_1 l2_2).bind fun t255 => (some t255)) else (some false)) = some r := by rw [if_pos rfl] at H; exact H
                clear H
                have H := H1
                clear H1
                by_cases c62 : t253 = true
                · subst c62
                  have H1 : ((term_Same.f t248 t249 t250 a2_0 a2_1 l2_2).bind fun t255 => (some t255)) = some r := by rw [if_pos rfl] at H; exact H
                  clear H
                  have H := H1
                  clear H1
                  replace H := Option.bind_eq_some_iff.mp H
                  obtain ⟨t255, A630, H⟩ := H
                  replace H : (some t255) = some r := H
                  have A63 := Aside0.mk A630
                  clear A630
                  obtain rfl := Option.some.inj H
                  have hnb64 := NB219_228.out
                  have hnc64 := NB228_219.out
                  have hnb65 := NB219_235.out
                  have hnc65 := NB235_219.out
                  have hcz66_0 : wc.cell? ⟨gb219, 0, none⟩ = some (.int .i64 a2_0) := (blk_cell BK219.out 0).trans rfl
                  have hcz66_1 : wc.cell? ⟨gb219, 1, none⟩ = some (.int .i64 a2_1) := (blk_cell BK219.out 1).trans rfl
                  have hcz66_2 : wc.cell? ⟨gb219, 2, none⟩ = some (.slice A2_2 l2_2.length c2_2) := (blk_cell BK219.out 2).trans rfl
                  have hfz66_0 := blk_frozen BK219.out 0
                  have hfz66_1 := blk_frozen BK219.out 1
                  have hfz66_2 := blk_frozen BK219.out 2
                  go_wp2_with (first | ((with_reducible refine gate_callee (f := 13) rfl ?_); refine goesL_ (some 91) rfl rfl Try.func13 (by kernel_rfl) rfl #[.agg #[.int .i64 a2_0, .int .i64 a2_1, .slice A2_2 l2_2.length c2_2]] rfl (by (try simp only [List.map_toArray, List.map_cons, List.map_nil]); first | done | rfl | (simp only [List.length_drop, List.length_take]; rfl)) ?_; (with_reducible refine (term_Unrow.calls a2_0 a2_1 _ _ l2_2 t244 true _ ?side1 ?side2 A59.out).mono ?_); (case side1 => repeat (first | exact (Kd.C_below HR2_2.out HB.out) | (with_reducible refine Kd.C_alloc ?_ _) | (with_reducible refine Kd.C_drewN ?_ _) | (with_reducible refine Kd.C_drew ?_))); (case side2 => exact HC2_2.out); rintro e w67 ⟨v245, rfl, ho0, hb⟩; refine ⟨_, rfl, ?_⟩; have n0_ := Aside0.mk (Kd.V_elder' (by (with_reducible repeat (first | apply Kd.V_alloc | apply Kd.V_drewN | apply Kd.V_drew)); exact HO_229002.out) (Kd.R_base ho0) hb); have n1_ := Aside0.mk (Kd.V_elder' (by (with_reducible repeat (first | apply Kd.V_alloc | apply Kd.V_drewN | apply Kd.V_drew)); exact HO_236002.out) (Kd.R_base ho0) hb); have n2_ := Aside0.mk (Kd.R_lower ho0 (below_size (by repeat (first | (with_reducible first | exact HB.out | apply below_alloc | apply pw_below_drewN | apply below_drew1 | refine below_set ?_ GE219.out | refine below_set ?_ GE228.out | refine below_set ?_ GE235.out) | exact HB.out)))); have n3_ := Aside0.mk (blk_below (g := gb219) (o := .cells #[.int .i64 a2_0, .int .i64 a2_1, .slice A2_2 l2_2.length c2_2] 24 (0, 0)) (by (with_reducible repeat (first | refine blk_drewN ?_ _ | refine blk_drew ?_ | refine blk_alloc ?_ _)); exact BK219.out) hb); have n4_ := Aside0.mk (blk_below (g := gb228) (o := .cells #[.int .i64 t222, .int .i64 t223, .slice Ao25 t224.length co25] 24 (0, 0)) (by (with_reducible repeat (first | refine blk_drewN ?_ _ | refine blk_drew ?_ | refine blk_alloc ?_ _)); exact BK228.out) hb); have n5_ := Aside0.mk (blk_below (g := gb235) (o := .cells #[.int .i64 t229, .int .i64 t230, .slice Ao31 t231.length co31] 24 (0, 0)) (by (with_reducible repeat (first | refine blk_drewN ?_ _ | refine blk_drew ?_ | refine blk_alloc ?_ _)); exact BK235.out) hb); have n6_ := Aside0.mk (below_step (by repeat (first | (with_reducible first | exact HB.out | apply below_alloc | apply pw_below_drewN | apply below_drew1 | refine below_set ?_ GE219.out | refine below_set ?_ GE228.out | refine below_set ?_ GE235.out) | exact HB.out)) hb); clear HO_229002; clear HO_236002; clear BK219; clear BK228; clear BK235; clear HB; have HO_229002 := n0_; have HO_236002 := n1_; have HO246 := n2_; have BK219 := n3_; have BK228 := n4_; have BK235 := n5_; have HB := n6_; clear n0_ n1_ n2_ n3_ n4_ n5_ n6_; (try clear hb); (try clear hb2); (try clear hk); (try clear hi); (try clear ho0); obtain ⟨Ao68, co68, eo68⟩ := Kd.R_slice HO246.out; subst eo68) | ((with_reducible refine gate_callee (f := 11) rfl ?_); refine goesL_ (some 96) rfl rfl Try.func11 (by kernel_rfl) rfl #[.slice Ao68 t244.length co68] rfl (by (try simp only [List.map_toArray, List.map_cons, List.map_nil]); first | done | rfl | (simp only [List.length_drop, List.length_take]; rfl)) ?_; (with_reducible refine (term_Row.calls _ _ t244 t248 t249 t250 true _ ?side1 ?side2 A60.out).mono ?_); (case side1 => repeat (first | exact (Kd.R_reads' HO246.out).2.2 | (with_reducible refine Kd.C_alloc ?_ _) | (with_reducible refine Kd.C_drewN ?_ _) | (with_reducible refine Kd.C_drew ?_))); (case side2 => exact (Kd.R_reads' HO246.out).2.1); rintro e w69 ⟨v251, rfl, ho0, hb⟩; refine ⟨_, rfl, ?_⟩; have n0_ := Aside0.mk (Kd.V_below (by (with_reducible repeat (first | apply Kd.V_alloc | apply Kd.V_drewN | apply Kd.V_drew)); exact HO_229002.out) hb); have n1_ := Aside0.mk (Kd.V_below (by (with_reducible repeat (first | apply Kd.V_alloc | apply Kd.V_drewN | apply Kd.V_drew)); exact HO_236002.out) hb); have n2_ := Aside0.mk (Kd.R_below (by (with_reducible repeat (first | apply Kd.R_alloc | apply Kd.R_drewN | apply Kd.R_drew)); exact HO246.out) hb); have n3_ := Aside0.mk (Kd.V_lower (Kd.V_mono (ok' := fun k_ => some k_ ≠ (.slice Ao68 t244.length co68 : Value).ownBlock ∧ k_ ≠ gb219 ∧ k_ ≠ gb228 ∧ k_ ≠ gb235) ho0 (fun k_ hk_ => ⟨(Kd.fresh' (Kd.R_lt (by (with_reducible repeat (first | apply Kd.R_alloc | apply Kd.R_drewN | apply Kd.R_drew)); exact HO246.out)) k_ hk_), (Kd.freshB (g := gb219) (o := .cells #[.int .i64 a2_0, .int .i64 a2_1, .slice A2_2 l2_2.length c2_2] 24 (0, 0)) (by (with_reducible repeat (first | refine blk_drewN ?_ _ | refine blk_drew ?_ | refine blk_alloc ?_ _)); exact BK219.out) k_ hk_), (Kd.freshB (g := gb228) (o := .cells #[.int .i64 t222, .int .i64 t223, .slice Ao25 t224.length co25] 24 (0, 0)) (by (with_reducible repeat (first | refine blk_drewN ?_ _ | refine blk_drew ?_ | refine blk_alloc ?_ _)); exact BK228.out) k_ hk_), (Kd.freshB (g := gb235) (o := .cells #[.int .i64 t229, .int .i64 t230, .slice Ao31 t231.length co31] 24 (0, 0)) (by (with_reducible repeat (first | refine blk_drewN ?_ _ | refine blk_drew ?_ | refine blk_alloc ?_ _)); exact BK235.out) k_ hk_)⟩)) (below_size (by repeat (first | (with_reducible first | exact HB.out | apply below_alloc | apply pw_below_drewN | apply below_drew1 | refine below_set ?_ GE219.out | refine below_set ?_ GE228.out | refine below_set ?_ GE235.out) | exact HB.out)))); have n4_ := Aside0.mk (blk_below (g := gb219) (o := .cells #[.int .i64 a2_0, .int .i64 a2_1, .slice A2_2 l2_2.length c2_2] 24 (0, 0)) (by (with_reducible repeat (first | refine blk_drewN ?_ _ | refine blk_drew ?_ | refine blk_alloc ?_ _)); exact BK219.out) hb); have n5_ := Aside0.mk (blk_below (g := gb228) (o := .cells #[.int .i64 t222, .int .i64 t223, .slice Ao25 t224.length co25] 24 (0, 0)) (by (with_reducible repeat (first | refine blk_drewN ?_ _ | refine blk_drew ?_ | refine blk_alloc ?_ _)); exact BK228.out) hb); have n6_ := Aside0.mk (blk_below (g := gb235) (o := .cells #[.int .i64 t229, .int .i64 t230, .slice Ao31 t231.length co31] 24 (0, 0)) (by (with_reducible repeat (first | refine blk_drewN ?_ _ | refine blk_drew ?_ | refine blk_alloc ?_ _)); exact BK235.out) hb); have n7_ := Aside0.mk (below_step (by repeat (first | (with_reducible first | exact HB.out | apply below_alloc | apply pw_below_drewN | apply below_drew1 | refine below_set ?_ GE219.out | refine below_set ?_ GE228.out | refine below_set ?_ GE235.out) | exact HB.out)) hb); clear HO_229002; clear HO_236002; clear HO246; clear BK219; clear BK228; clear BK235; clear HB; have HO_229002 := n0_; have HO_236002 := n1_; have HO246 := n2_; have HO252 := n3_; have BK219 := n4_; have BK228 := n5_; have BK235 := n6_; have HB := n7_; clear n0_ n1_ n2_ n3_ n4_ n5_ n6_ n7_; (try clear hb); (try clear hb2); (try clear hk); (try clear hi); (try clear ho0)) | ((with_reducible refine gate_dst (N := 19) rfl ?_); (try (refine gate_guard (by rfl) ?_; dsimp only)); refine box_event ?hg (N := 19) ?hd (cs := #[.int .i64 0, .int .i64 0, .slice none 0 0]) (t := 24) ?hr ?_; (case hd => rfl); (case hg => rfl); (case hr => first | (go_simp; done) | (go_simp; rfl)); intro gb254 hg w70 hbox hb; have n0_ := Aside0.mk (Kd.V_below (Kd.V_elderB (by (with_reducible repeat (first | apply Kd.V_alloc | apply Kd.V_drewN | apply Kd.V_drew)); exact HO_229002.out) gb254 (Nat.le_of_eq hg.symm)) hb); have n1_ := Aside0.mk (Kd.V_below (Kd.V_elderB (by (with_reducible repeat (first | apply Kd.V_alloc | apply Kd.V_drewN | apply Kd.V_drew)); exact HO_236002.out) gb254 (Nat.le_of_eq hg.symm)) hb); have n2_ := Aside0.mk (Kd.R_below (by (with_reducible repeat (first | apply Kd.R_alloc | apply Kd.R_drewN | apply Kd.R_drew)); exact HO246.out) hb); have n3_ := Aside0.mk (Kd.V_below (Kd.V_elderB (by (with_reducible repeat (first | apply Kd.V_alloc | apply Kd.V_drewN | apply Kd.V_drew)); exact HO252.out) gb254 (Nat.le_of_eq hg.symm)) hb); have n4_ := Aside0.mk (blk_below (g := gb219) (o := .cells #[.int .i64 a2_0, .int .i64 a2_1, .slice A2_2 l2_2.length c2_2] 24 (0, 0)) (by (with_reducible repeat (first | refine blk_drewN ?_ _ | refine blk_drew ?_ | refine blk_alloc ?_ _)); exact BK219.out) hb); have n5_ := Aside0.mk (blk_below (g := gb228) (o := .cells #[.int .i64 t222, .int .i64 t223, .slice Ao25 t224.length co25] 24 (0, 0)) (by (with_reducible repeat (first | refine blk_drewN ?_ _ | refine blk_drew ?_ | refine blk_alloc ?_ _)); exact BK228.out) hb); have n6_ := Aside0.mk (blk_below (g := gb235) (o := .cells #[.int .i64 t229, .int .i64 t230, .slice Ao31 t231.length co31] 24 (0, 0)) (by (with_reducible repeat (first | refine blk_drewN ?_ _ | refine blk_drew ?_ | refine blk_alloc ?_ _)); exact BK235.out) hb); have n7_ := Aside0.mk (below_step (by repeat (first | (with_reducible first | exact HB.out | apply below_alloc | apply pw_below_drewN | apply below_drew1 | refine below_set ?_ GE219.out | refine below_set ?_ GE228.out | refine below_set ?_ GE235.out) | exact HB.out)) hb); have n8_ := Aside0.mk (hbox); have n9_ := Aside0.mk ((by rw [hg]; exact (below_size (by repeat (first | (with_reducible first | exact HB.out | apply below_alloc | apply pw_below_drewN | apply below_drew1 | refine below_set ?_ GE219.out | refine below_set ?_ GE228.out | refine below_set ?_ GE235.out) | exact HB.out))) : w.heap.size ≤ gb254)); have n10_ := Aside0.mk ((by rw [hg]; exact (below_size (by repeat (first | (with_reducible first | exact HB.out | apply below_alloc | apply pw_below_drewN | apply below_drew1 | refine below_set ?_ GE219.out | refine below_set ?_ GE228.out | refine below_set ?_ GE235.out) | exact HB.out))) : w.heap.size ≤ gb254)); have n11_ := Aside0.mk ((by rw [hg]; exact Nat.ne_of_lt (blk_lt (g := gb219) (o := .cells #[.int .i64 a2_0, .int .i64 a2_1, .slice A2_2 l2_2.length c2_2] 24 (0, 0)) (by (with_reducible repeat (first | refine blk_drewN ?_ _ | refine blk_drew ?_ | refine blk_alloc ?_ _)); exact BK219.out)) : gb219 ≠ gb254)); have n12_ := Aside0.mk ((by rw [hg]; exact Nat.ne_of_gt (blk_lt (g := gb219) (o := .cells #[.int .i64 a2_0, .int .i64 a2_1, .slice A2_2 l2_2.length c2_2] 24 (0, 0)) (by (with_reducible repeat (first | refine blk_drewN ?_ _ | refine blk_drew ?_ | refine blk_alloc ?_ _)); exact BK219.out)) : gb254 ≠ gb219)); have n13_ := Aside0.mk ((by rw [hg]; exact Nat.ne_of_lt (blk_lt (g := gb228) (o := .cells #[.int .i64 t222, .int .i64 t223, .slice Ao25 t224.length co25] 24 (0, 0)) (by (with_reducible repeat (first | refine blk_drewN ?_ _ | refine blk_drew ?_ | refine blk_alloc ?_ _)); exact BK228.out)) : gb228 ≠ gb254)); have n14_ := Aside0.mk ((by rw [hg]; exact Nat.ne_of_gt (blk_lt (g := gb228) (o := .cells #[.int .i64 t222, .int .i64 t223, .slice Ao25 t224.length co25] 24 (0, 0)) (by (with_reducible repeat (first | refine blk_drewN ?_ _ | refine blk_drew ?_ | refine blk_alloc ?_ _)); exact BK228.out)) : gb254 ≠ gb228)); have n15_ := Aside0.mk ((by rw [hg]; exact Nat.ne_of_lt (blk_lt (g := gb235) (o := .cells #[.int .i64 t229, .int .i64 t230, .slice Ao31 t231.length co31] 24 (0, 0)) (by (with_reducible repeat (first | refine blk_drewN ?_ _ | refine blk_drew ?_ | refine blk_alloc ?_ _)); exact BK235.out)) : gb235 ≠ gb254)); have n16_ := Aside0.mk ((by rw [hg]; exact Nat.ne_of_gt (blk_lt (g := gb235) (o := .cells #[.int .i64 t229, .int .i64 t230, .slice Ao31 t231.length co31] 24 (0, 0)) (by (with_reducible repeat (first | refine blk_drewN ?_ _ | refine blk_drew ?_ | refine blk_alloc ?_ _)); exact BK235.out)) : gb254 ≠ gb235)); clear HO_229002; clear HO_236002; clear HO246; clear HO252; clear BK219; clear BK228; clear BK235; clear HB; have HO_229002 := n0_; have HO_236002 := n1_; have HO246 := n2_; have HO252 := n3_; have BK219 := n4_; have BK228 := n5_; have BK235 := n6_; have HB := n7_; have BK254 := n8_; have GW254 := n9_; have GE254 := n10_; have NB219_254 := n11_; have NB254_219 := n12_; have NB228_254 := n13_; have NB254_228 := n14_; have NB235_254 := n15_; have NB254_235 := n16_; clear n0_ n1_ n2_ n3_ n4_ n5_ n6_ n7_ n8_ n9_ n10_ n11_ n12_ n13_ n14_ n15_ n16_; clear hb hbox hg; have hnb71 := NB254_219.out; have hnc71 := NB219_254.out; have hnb72 := NB254_228.out; have hnc72 := NB228_254.out; have hnb73 := NB254_235.out; have hnc73 := NB235_254.out; have hcz74_0 : w70.cell? ⟨gb254, 0, none⟩ = some (.int .i64 0) := (blk_cell BK254.out 0).trans rfl; have hcz74_1 : w70.cell? ⟨gb254, 1, none⟩ = some (.int .i64 0) := (blk_cell BK254.out 1).trans rfl; have hcz74_2 : w70.cell? ⟨gb254, 2, none⟩ = some (.slice none 0 0) := (blk_cell BK254.out 2).trans rfl; have hfz74_0 := blk_frozen BK254.out 0; have hfz74_1 := blk_frozen BK254.out 1; have hfz74_2 := blk_frozen BK254.out 2; obtain ⟨Ao75, co75, eo75⟩ := Kd.V_slice HO252.out; subst eo75; have hcz76_0 : w70.cell? ⟨gb219, 0, none⟩ = some (.int .i64 a2_0) := (blk_cell BK219.out 0).trans rfl; have hcz76_1 : w70.cell? ⟨gb219, 1, none⟩ = some (.int .i64 a2_1) := (blk_cell BK219.out 1).trans rfl; have hcz76_2 : w70.cell? ⟨gb219, 2, none⟩ = some (.slice A2_2 l2_2.length c2_2) := (blk_cell BK219.out 2).trans rfl; have hfz76_0 := blk_frozen BK219.out 0; have hfz76_1 := blk_frozen BK219.out 1; have hfz76_2 := blk_frozen BK219.out 2) | (go_at_call 24; (with_reducible refine (term_Same.calls t248 t249 _ _ t250 a2_0 a2_1 _ _ l2_2 t255 _ ?side1 ?side2 ?side3 ?side4 A63.out).mono ?_); (case side1 => refine (Kd.V_reads' (e := 24) (base := w.heap.size) (ok := fun k_ => ((some k_ ≠ (.slice Ao68 t244.length co68 : Value).ownBlock ∧ (k_ ≠ gb219 ∧ (k_ ≠ gb228 ∧ k_ ≠ gb235))) ∧ k_ ≠ gb254)) (n := t250.length) (c := co75) ?_).2.2; exact (by (with_reducible repeat (first | apply Kd.V_alloc | apply Kd.V_drewN | apply Kd.V_drew)); exact (Kd.V_mono (Kd.V_far (p := ⟨gb254, 2, none⟩) (Kd.V_far (p := ⟨gb254, 1, none⟩) (Kd.V_far (p := ⟨gb254, 0, none⟩) (Kd.V_mono HO252.out (fun k_ hk => (⟨hk, hk.2⟩ : _ ∧ k_ ≠ gb254))) (fun _ hk => hk.2) (.int .i64 t248)) (fun _ hk => hk.2) (.int .i64 t249)) (fun _ hk => hk.2) (.slice Ao75 t250.length co75)) (fun _ h_ => h_.1)))); (case side2 => exact (Kd.V_reads' HO252.out).2.1); (case side3 => exact Kd.C_below HR2_2.out (by repeat (first | (with_reducible first | exact HB.out | apply below_alloc | apply pw_below_drewN | apply below_drew1 | refine below_set ?_ GE219.out | refine below_set ?_ GE228.out | refine below_set ?_ GE235.out | refine below_set ?_ GE254.out) | exact HB.out))); (case side4 => exact HC2_2.out); rintro e w77 ⟨rfl, hb⟩; have n0_ := Aside0.mk (Kd.V_below (by (with_reducible repeat (first | apply Kd.V_alloc | apply Kd.V_drewN | apply Kd.V_drew)); exact (Kd.V_mono (Kd.V_far (p := ⟨gb254, 2, none⟩) (Kd.V_far (p := ⟨gb254, 1, none⟩) (Kd.V_far (p := ⟨gb254, 0, none⟩) (Kd.V_mono HO_229002.out (fun k_ hk => (⟨hk, hk.2⟩ : _ ∧ k_ ≠ gb254))) (fun _ hk => hk.2) (.int .i64 t248)) (fun _ hk => hk.2) (.int .i64 t249)) (fun _ hk => hk.2) (.slice Ao75 t250.length co75)) (fun _ h_ => h_.1))) hb); have n1_ := Aside0.mk (Kd.V_below (by (with_reducible repeat (first | apply Kd.V_alloc | apply Kd.V_drewN | apply Kd.V_drew)); exact (Kd.V_mono (Kd.V_far (p := ⟨gb254, 2, none⟩) (Kd.V_far (p := ⟨gb254, 1, none⟩) (Kd.V_far (p := ⟨gb254, 0, none⟩) (Kd.V_mono HO_236002.out (fun k_ hk => (⟨hk, hk.2⟩ : _ ∧ k_ ≠ gb254))) (fun _ hk => hk.2) (.int .i64 t248)) (fun _ hk => hk.2) (.int .i64 t249)) (fun _ hk => hk.2) (.slice Ao75 t250.length co75)) (fun _ h_ => h_.1))) hb); have n2_ := Aside0.mk (Kd.R_below (by (with_reducible repeat (first | apply Kd.R_alloc | apply Kd.R_drewN | apply Kd.R_drew)); exact (Kd.R_mono (Kd.R_far (p := ⟨gb254, 2, none⟩) (Kd.R_far (p := ⟨gb254, 1, none⟩) (Kd.R_far (p := ⟨gb254, 0, none⟩) (Kd.R_types HO246.out BK254.out (by decide)) (fun _ hk => hk.2) (.int .i64 t248)) (fun _ hk => hk.2) (.int .i64 t249)) (fun _ hk => hk.2) (.slice Ao75 t250.length co75)) (fun _ h_ => h_.1))) hb); have n3_ := Aside0.mk (Kd.V_below (by (with_reducible repeat (first | apply Kd.V_alloc | apply Kd.V_drewN | apply Kd.V_drew)); exact (Kd.V_mono (Kd.V_far (p := ⟨gb254, 2, none⟩) (Kd.V_far (p := ⟨gb254, 1, none⟩) (Kd.V_far (p := ⟨gb254, 0, none⟩) (Kd.V_mono HO252.out (fun k_ hk => (⟨hk, hk.2⟩ : _ ∧ k_ ≠ gb254))) (fun _ hk => hk.2) (.int .i64 t248)) (fun _ hk => hk.2) (.int .i64 t249)) (fun _ hk => hk.2) (.slice Ao75 t250.length co75)) (fun _ h_ => h_.1))) hb); have n4_ := Aside0.mk (blk_below (g := gb219) (o := .cells #[.int .i64 a2_0, .int .i64 a2_1, .slice A2_2 l2_2.length c2_2] 24 (0, 0)) (by (with_reducible repeat (first | refine blk_drewN ?_ _ | refine blk_drew ?_ | refine blk_alloc ?_ _)); refine blk_far ?_ NB219_254.out _; (with_reducible repeat (first | refine blk_drewN ?_ _ | refine blk_drew ?_ | refine blk_alloc ?_ _)); refine blk_far ?_ NB219_254.out _; (with_reducible repeat (first | refine blk_drewN ?_ _ | refine blk_drew ?_ | refine blk_alloc ?_ _)); refine blk_far ?_ NB219_254.out _; (with_reducible repeat (first | refine blk_drewN ?_ _ | refine blk_drew ?_ | refine blk_alloc ?_ _)); exact BK219.out) hb); have n5_ := Aside0.mk (blk_below (g := gb228) (o := .cells #[.int .i64 t222, .int .i64 t223, .slice Ao25 t224.length co25] 24 (0, 0)) (by (with_reducible repeat (first | refine blk_drewN ?_ _ | refine blk_drew ?_ | refine blk_alloc ?_ _)); refine blk_far ?_ NB228_254.out _; (with_reducible repeat (first | refine blk_drewN ?_ _ | refine blk_drew ?_ | refine blk_alloc ?_ _)); refine blk_far ?_ NB228_254.out _; (with_reducible repeat (first | refine blk_drewN ?_ _ | refine blk_drew ?_ | refine blk_alloc ?_ _)); refine blk_far ?_ NB228_254.out _; (with_reducible repeat (first | refine blk_drewN ?_ _ | refine blk_drew ?_ | refine blk_alloc ?_ _)); exact BK228.out) hb); have n6_ := Aside0.mk (blk_below (g := gb235) (o := .cells #[.int .i64 t229, .int .i64 t230, .slice Ao31 t231.length co31] 24 (0, 0)) (by (with_reducible repeat (first | refine blk_drewN ?_ _ | refine blk_drew ?_ | refine blk_alloc ?_ _)); refine blk_far ?_ NB235_254.out _; (with_reducible repeat (first | refine blk_drewN ?_ _ | refine blk_drew ?_ | refine blk_alloc ?_ _)); refine blk_far ?_ NB235_254.out _; (with_reducible repeat (first | refine blk_drewN ?_ _ | refine blk_drew ?_ | refine blk_alloc ?_ _)); refine blk_far ?_ NB235_254.out _; (with_reducible repeat (first | refine blk_drewN ?_ _ | refine blk_drew ?_ | refine blk_alloc ?_ _)); exact BK235.out) hb); have n7_ := Aside0.mk (blk_below (g := gb254) (o := .cells #[.int .i64 t248, .int .i64 t249, .slice Ao75 t250.length co75] 24 (0, 0)) (by (with_reducible repeat (first | refine blk_drewN ?_ _ | refine blk_drew ?_ | refine blk_alloc ?_ _)); refine blk_put (cs := #[.int .i64 t248, .int .i64 t249, .slice none 0 0]) ?_ 2 _ rfl; (with_reducible repeat (first | refine blk_drewN ?_ _ | refine blk_drew ?_ | refine blk_alloc ?_ _)); refine blk_put (cs := #[.int .i64 t248, .int .i64 0, .slice none 0 0]) ?_ 1 _ rfl; (with_reducible repeat (first | refine blk_drewN ?_ _ | refine blk_drew ?_ | refine blk_alloc ?_ _)); refine blk_put (cs := #[.int .i64 0, .int .i64 0, .slice none 0 0]) ?_ 0 _ rfl; (with_reducible repeat (first | refine blk_drewN ?_ _ | refine blk_drew ?_ | refine blk_alloc ?_ _)); exact BK254.out) hb); have n8_ := Aside0.mk (below_step (by repeat (first | (with_reducible first | exact HB.out | apply below_alloc | apply pw_below_drewN | apply below_drew1 | refine below_set ?_ GE219.out | refine below_set ?_ GE228.out | refine below_set ?_ GE235.out | refine below_set ?_ GE254.out) | exact HB.out)) hb); clear HO_229002; clear HO_236002; clear HO246; clear HO252; clear BK219; clear BK228; clear BK235; clear BK254; clear HB; have HO_229002 := n0_; have HO_236002 := n1_; have HO246 := n2_; have HO252 := n3_; have BK219 := n4_; have BK228 := n5_; have BK235 := n6_; have BK254 := n7_; have HB := n8_; clear n0_ n1_ n2_ n3_ n4_ n5_ n6_ n7_ n8_; (try clear hb); (try clear hb2); (try clear hk); (try clear hi)))
                  go_ret
                  exact ⟨by first | rfl | (simp [errW_none, errW_some] <;> rfl) | (simp [*, errW_none, errW_some] <;> rfl), by repeat (first | (with_reducible first | exact HB.out | apply below_alloc | apply pw_below_drewN | apply below_drew1 | refine below_set ?_ GE219.out | refine below_set ?_ GE228.out | refine below_set ?_ GE235.out | refine below_set ?_ GE254.out) | exact HB.out)⟩
                · replace c62 := Bool.eq_false_iff.mpr c62
                  subst c62
                  have H1 : (some false) = some r := by rw [if_neg (show ¬ (false = true) by decide)] at H; exact H
                  clear H
                  have H := H1
                  clear H1
                  exact absurd ((Option.some.inj H).trans hr_.out) (by decide)
              · replace c61 := Bool.eq_false_iff.mpr c61
                subst c61
                have H1 : (some true) = some r := by rw [if_neg (show ¬ (false = true) by decide)] at H; exact H
                clear H
                have H := H1
                clear H1
                obtain rfl := Option.some.inj H
                have hnb90 := NB219_228.out
                have hnc90 := NB228_219.out
                have hnb91 := NB219_235.out
                have hnc91 := NB235_219.out
                have hcz92_0 : wc.cell? ⟨gb219, 0, none⟩ = some (.int .i64 a2_0) := (blk_cell BK219.out 0).trans rfl
                have hcz92_1 : wc.cell? ⟨gb219, 1, none⟩ = some (.int .i64 a2_1) := (blk_cell BK219.out 1).trans rfl
                have hcz92_2 : wc.cell? ⟨gb219, 2, none⟩ = some (.slice A2_2 l2_2.length c2_2) := (blk_cell BK219.out 2).trans rfl
                have hfz92_0 := blk_frozen BK219.out 0
                have hfz92_1 := blk_frozen BK219.out 1
                have hfz92_2 := blk_frozen BK219.out 2
                go_wp2_with (first | ((with_reducible refine gate_callee (f := 13) rfl ?_); refine goesL_ (some 91) rfl rfl Try.func13 (by kernel_rfl) rfl #[.agg #[.int .i64 a2_0, .int .i64 a2_1, .slice A2_2 l2_2.length c2_2]] rfl (by (try simp only [List.map_toArray, List.map_cons, List.map_nil]); first | done | rfl | (simp only [List.length_drop, List.length_take]; rfl)) ?_; (with_reducible refine (term_Unrow.calls a2_0 a2_1 _ _ l2_2 t244 false _ ?side1 ?side2 A59.out).mono ?_); (case side1 => repeat (first | exact (Kd.C_below HR2_2.out HB.out) | (with_reducible refine Kd.C_alloc ?_ _) | (with_reducible refine Kd.C_drewN ?_ _) | (with_reducible refine Kd.C_drew ?_))); (case side2 => exact HC2_2.out); rintro e w93 ⟨v245, rfl, ho0, hb⟩; refine ⟨_, rfl, ?_⟩; have n0_ := Aside0.mk (Kd.V_elder' (by (with_reducible repeat (first | apply Kd.V_alloc | apply Kd.V_drewN | apply Kd.V_drew)); exact HO_229002.out) (Kd.R_base ho0) hb); have n1_ := Aside0.mk (Kd.V_elder' (by (with_reducible repeat (first | apply Kd.V_alloc | apply Kd.V_drewN | apply Kd.V_drew)); exact HO_236002.out) (Kd.R_base ho0) hb); have n2_ := Aside0.mk (Kd.R_lower ho0 (below_size (by repeat (first | (with_reducible first | exact HB.out | apply below_alloc | apply pw_below_drewN | apply below_drew1 | refine below_set ?_ GE219.out | refine below_set ?_ GE228.out | refine below_set ?_ GE235.out) | exact HB.out)))); have n3_ := Aside0.mk (blk_below (g := gb219) (o := .cells #[.int .i64 a2_0, .int .i64 a2_1, .slice A2_2 l2_2.length c2_2] 24 (0, 0)) (by (with_reducible repeat (first | refine blk_drewN ?_ _ | refine blk_drew ?_ | refine blk_alloc ?_ _)); exact BK219.out) hb); have n4_ := Aside0.mk (blk_below (g := gb228) (o := .cells #[.int .i64 t222, .int .i64 t223, .slice Ao25 t224.length co25] 24 (0, 0)) (by (with_reducible repeat (first | refine blk_drewN ?_ _ | refine blk_drew ?_ | refine blk_alloc ?_ _)); exact BK228.out) hb); have n5_ := Aside0.mk (blk_below (g := gb235) (o := .cells #[.int .i64 t229, .int .i64 t230, .slice Ao31 t231.length co31] 24 (0, 0)) (by (with_reducible repeat (first | refine blk_drewN ?_ _ | refine blk_drew ?_ | refine blk_alloc ?_ _)); exact BK235.out) hb); have n6_ := Aside0.mk (below_step (by repeat (first | (with_reducible first | exact HB.out | apply below_alloc | apply pw_below_drewN | apply below_drew1 | refine below_set ?_ GE219.out | refine below_set ?_ GE228.out | refine below_set ?_ GE235.out) | exact HB.out)) hb); clear HO_229002; clear HO_236002; clear BK219; clear BK228; clear BK235; clear HB; have HO_229002 := n0_; have HO_236002 := n1_; have HO246 := n2_; have BK219 := n3_; have BK228 := n4_; have BK235 := n5_; have HB := n6_; clear n0_ n1_ n2_ n3_ n4_ n5_ n6_; (try clear hb); (try clear hb2); (try clear hk); (try clear hi); (try clear ho0); obtain ⟨Ao94, co94, eo94⟩ := Kd.R_slice HO246.out; subst eo94) | ((with_reducible refine gate_callee (f := 11) rfl ?_); refine goesL_ (some 96) rfl rfl Try.func11 (by kernel_rfl) rfl #[.slice Ao94 t244.length co94] rfl (by (try simp only [List.map_toArray, List.map_cons, List.map_nil]); first | done | rfl | (simp only [List.length_drop, List.length_take]; rfl)) ?_; (with_reducible refine (term_Row.calls _ _ t244 t248 t249 t250 t253 _ ?side1 ?side2 A60.out).mono ?_); (case side1 => repeat (first | exact (Kd.R_reads' HO246.out).2.2 | (with_reducible refine Kd.C_alloc ?_ _) | (with_reducible refine Kd.C_drewN ?_ _) | (with_reducible refine Kd.C_drew ?_))); (case side2 => exact (Kd.R_reads' HO246.out).2.1); rintro e w95 ⟨v251, rfl, ho0, hb⟩; refine ⟨_, rfl, ?_⟩; have n0_ := Aside0.mk (Kd.V_below (by (with_reducible repeat (first | apply Kd.V_alloc | apply Kd.V_drewN | apply Kd.V_drew)); exact HO_229002.out) hb); have n1_ := Aside0.mk (Kd.V_below (by (with_reducible repeat (first | apply Kd.V_alloc | apply Kd.V_drewN | apply Kd.V_drew)); exact HO_236002.out) hb); have n2_ := Aside0.mk (Kd.R_below (by (with_reducible repeat (first | apply Kd.R_alloc | apply Kd.R_drewN | apply Kd.R_drew)); exact HO246.out) hb); have n3_ := Aside0.mk (Kd.V_lower (Kd.V_mono (ok' := fun k_ => some k_ ≠ (.slice Ao94 t244.length co94 : Value).ownBlock ∧ k_ ≠ gb219 ∧ k_ ≠ gb228 ∧ k_ ≠ gb235) ho0 (fun k_ hk_ => ⟨(Kd.fresh' (Kd.R_lt (by (with_reducible repeat (first | apply Kd.R_alloc | apply Kd.R_drewN | apply Kd.R_drew)); exact HO246.out)) k_ hk_), (Kd.freshB (g := gb219) (o := .cells #[.int .i64 a2_0, .int .i64 a2_1, .slice A2_2 l2_2.length c2_2] 24 (0, 0)) (by (with_reducible repeat (first | refine blk_drewN ?_ _ | refine blk_drew ?_ | refine blk_alloc ?_ _)); exact BK219.out) k_ hk_), (Kd.freshB (g := gb228) (o := .cells #[.int .i64 t222, .int .i64 t223, .slice Ao25 t224.length co25] 24 (0, 0)) (by (with_reducible repeat (first | refine blk_drewN ?_ _ | refine blk_drew ?_ | refine blk_alloc ?_ _)); exact BK228.out) k_ hk_), (Kd.freshB (g := gb235) (o := .cells #[.int .i64 t229, .int .i64 t230, .slice Ao31 t231.length co31] 24 (0, 0)) (by (with_reducible repeat (first | refine blk_drewN ?_ _ | refine blk_drew ?_ | refine blk_alloc ?_ _)); exact BK235.out) k_ hk_)⟩)) (below_size (by repeat (first | (with_reducible first | exact HB.out | apply below_alloc | apply pw_below_drewN | apply below_drew1 | refine below_set ?_ GE219.out | refine below_set ?_ GE228.out | refine below_set ?_ GE235.out) | exact HB.out)))); have n4_ := Aside0.mk (blk_below (g := gb219) (o := .cells #[.int .i64 a2_0, .int .i64 a2_1, .slice A2_2 l2_2.length c2_2] 24 (0, 0)) (by (with_reducible repeat (first | refine blk_drewN ?_ _ | refine blk_drew ?_ | refine blk_alloc ?_ _)); exact BK219.out) hb); have n5_ := Aside0.mk (blk_below (g := gb228) (o := .cells #[.int .i64 t222, .int .i64 t223, .slice Ao25 t224.length co25] 24 (0, 0)) (by (with_reducible repeat (first | refine blk_drewN ?_ _ | refine blk_drew ?_ | refine blk_alloc ?_ _)); exact BK228.out) hb); have n6_ := Aside0.mk (blk_below (g := gb235) (o := .cells #[.int .i64 t229, .int .i64 t230, .slice Ao31 t231.length co31] 24 (0, 0)) (by (with_reducible repeat (first | refine blk_drewN ?_ _ | refine blk_drew ?_ | refine blk_alloc ?_ _)); exact BK235.out) hb); have n7_ := Aside0.mk (below_step (by repeat (first | (with_reducible first | exact HB.out | apply below_alloc | apply pw_below_drewN | apply below_drew1 | refine below_set ?_ GE219.out | refine below_set ?_ GE228.out | refine below_set ?_ GE235.out) | exact HB.out)) hb); clear HO_229002; clear HO_236002; clear HO246; clear BK219; clear BK228; clear BK235; clear HB; have HO_229002 := n0_; have HO_236002 := n1_; have HO246 := n2_; have HO252 := n3_; have BK219 := n4_; have BK228 := n5_; have BK235 := n6_; have HB := n7_; clear n0_ n1_ n2_ n3_ n4_ n5_ n6_ n7_; (try clear hb); (try clear hb2); (try clear hk); (try clear hi); (try clear ho0)) | ((with_reducible refine gate_dst (N := 19) rfl ?_); (try (refine gate_guard (by rfl) ?_; dsimp only)); refine box_event ?hg (N := 19) ?hd (cs := #[.int .i64 0, .int .i64 0, .slice none 0 0]) (t := 24) ?hr ?_; (case hd => rfl); (case hg => rfl); (case hr => first | (go_simp; done) | (go_simp; rfl)); intro gb254 hg w96 hbox hb; have n0_ := Aside0.mk (Kd.V_below (Kd.V_elderB (by (with_reducible repeat (first | apply Kd.V_alloc | apply Kd.V_drewN | apply Kd.V_drew)); exact HO_229002.out) gb254 (Nat.le_of_eq hg.symm)) hb); have n1_ := Aside0.mk (Kd.V_below (Kd.V_elderB (by (with_reducible repeat (first | apply Kd.V_alloc | apply Kd.V_drewN | apply Kd.V_drew)); exact HO_236002.out) gb254 (Nat.le_of_eq hg.symm)) hb); have n2_ := Aside0.mk (Kd.R_below (by (with_reducible repeat (first | apply Kd.R_alloc | apply Kd.R_drewN | apply Kd.R_drew)); exact HO246.out) hb); have n3_ := Aside0.mk (Kd.V_below (Kd.V_elderB (by (with_reducible repeat (first | apply Kd.V_alloc | apply Kd.V_drewN | apply Kd.V_drew)); exact HO252.out) gb254 (Nat.le_of_eq hg.symm)) hb); have n4_ := Aside0.mk (blk_below (g := gb219) (o := .cells #[.int .i64 a2_0, .int .i64 a2_1, .slice A2_2 l2_2.length c2_2] 24 (0, 0)) (by (with_reducible repeat (first | refine blk_drewN ?_ _ | refine blk_drew ?_ | refine blk_alloc ?_ _)); exact BK219.out) hb); have n5_ := Aside0.mk (blk_below (g := gb228) (o := .cells #[.int .i64 t222, .int .i64 t223, .slice Ao25 t224.length co25] 24 (0, 0)) (by (with_reducible repeat (first | refine blk_drewN ?_ _ | refine blk_drew ?_ | refine blk_alloc ?_ _)); exact BK228.out) hb); have n6_ := Aside0.mk (blk_below (g := gb235) (o := .cells #[.int .i64 t229, .int .i64 t230, .slice Ao31 t231.length co31] 24 (0, 0)) (by (with_reducible repeat (first | refine blk_drewN ?_ _ | refine blk_drew ?_ | refine blk_alloc ?_ _)); exact BK235.out) hb); have n7_ := Aside0.mk (below_step (by repeat (first | (with_reducible first | exact HB.out | apply below_alloc | apply pw_below_drewN | apply below_drew1 | refine below_set ?_ GE219.out | refine below_set ?_ GE228.out | refine below_set ?_ GE235.out) | exact HB.out)) hb); have n8_ := Aside0.mk (hbox); have n9_ := Aside0.mk ((by rw [hg]; exact (below_size (by repeat (first | (with_reducible first | exact HB.out | apply below_alloc | apply pw_below_drewN | apply below_drew1 | refine below_set ?_ GE219.out | refine below_set ?_ GE228.out | refine below_set ?_ GE235.out) | exact HB.out))) : w.heap.size ≤ gb254)); have n10_ := Aside0.mk ((by rw [hg]; exact (below_size (by repeat (first | (with_reducible first | exact HB.out | apply below_alloc | apply pw_below_drewN | apply below_drew1 | refine below_set ?_ GE219.out | refine below_set ?_ GE228.out | refine below_set ?_ GE235.out) | exact HB.out))) : w.heap.size ≤ gb254)); have n11_ := Aside0.mk ((by rw [hg]; exact Nat.ne_of_lt (blk_lt (g := gb219) (o := .cells #[.int .i64 a2_0, .int .i64 a2_1, .slice A2_2 l2_2.length c2_2] 24 (0, 0)) (by (with_reducible repeat (first | refine blk_drewN ?_ _ | refine blk_drew ?_ | refine blk_alloc ?_ _)); exact BK219.out)) : gb219 ≠ gb254)); have n12_ := Aside0.mk ((by rw [hg]; exact Nat.ne_of_gt (blk_lt (g := gb219) (o := .cells #[.int .i64 a2_0, .int .i64 a2_1, .slice A2_2 l2_2.length c2_2] 24 (0, 0)) (by (with_reducible repeat (first | refine blk_drewN ?_ _ | refine blk_drew ?_ | refine blk_alloc ?_ _)); exact BK219.out)) : gb254 ≠ gb219)); have n13_ := Aside0.mk ((by rw [hg]; exact Nat.ne_of_lt (blk_lt (g := gb228) (o := .cells #[.int .i64 t222, .int .i64 t223, .slice Ao25 t224.length co25] 24 (0, 0)) (by (with_reducible repeat (first | refine blk_drewN ?_ _ | refine blk_drew ?_ | refine blk_alloc ?_ _)); exact BK228.out)) : gb228 ≠ gb254)); have n14_ := Aside0.mk ((by rw [hg]; exact Nat.ne_of_gt (blk_lt (g := gb228) (o := .cells #[.int .i64 t222, .int .i64 t223, .slice Ao25 t224.length co25] 24 (0, 0)) (by (with_reducible repeat (first | refine blk_drewN ?_ _ | refine blk_drew ?_ | refine blk_alloc ?_ _)); exact BK228.out)) : gb254 ≠ gb228)); have n15_ := Aside0.mk ((by rw [hg]; exact Nat.ne_of_lt (blk_lt (g := gb235) (o := .cells #[.int .i64 t229, .int .i64 t230, .slice Ao31 t231.length co31] 24 (0, 0)) (by (with_reducible repeat (first | refine blk_drewN ?_ _ | refine blk_drew ?_ | refine blk_alloc ?_ _)); exact BK235.out)) : gb235 ≠ gb254)); have n16_ := Aside0.mk ((by rw [hg]; exact Nat.ne_of_gt (blk_lt (g := gb235) (o := .cells #[.int .i64 t229, .int .i64 t230, .slice Ao31 t231.length co31] 24 (0, 0)) (by (with_reducible repeat (first | refine blk_drewN ?_ _ | refine blk_drew ?_ | refine blk_alloc ?_ _)); exact BK235.out)) : gb254 ≠ gb235)); clear HO_229002; clear HO_236002; clear HO246; clear HO252; clear BK219; clear BK228; clear BK235; clear HB; have HO_229002 := n0_; have HO_236002 := n1_; have HO246 := n2_; have HO252 := n3_; have BK219 := n4_; have BK228 := n5_; have BK235 := n6_; have HB := n7_; have BK254 := n8_; have GW254 := n9_; have GE254 := n10_; have NB219_254 := n11_; have NB254_219 := n12_; have NB228_254 := n13_; have NB254_228 := n14_; have NB235_254 := n15_; have NB254_235 := n16_; clear n0_ n1_ n2_ n3_ n4_ n5_ n6_ n7_ n8_ n9_ n10_ n11_ n12_ n13_ n14_ n15_ n16_; clear hb hbox hg; have hnb97 := NB254_219.out; have hnc97 := NB219_254.out; have hnb98 := NB254_228.out; have hnc98 := NB228_254.out; have hnb99 := NB254_235.out; have hnc99 := NB235_254.out; have hcz100_0 : w96.cell? ⟨gb254, 0, none⟩ = some (.int .i64 0) := (blk_cell BK254.out 0).trans rfl; have hcz100_1 : w96.cell? ⟨gb254, 1, none⟩ = some (.int .i64 0) := (blk_cell BK254.out 1).trans rfl; have hcz100_2 : w96.cell? ⟨gb254, 2, none⟩ = some (.slice none 0 0) := (blk_cell BK254.out 2).trans rfl; have hfz100_0 := blk_frozen BK254.out 0; have hfz100_1 := blk_frozen BK254.out 1; have hfz100_2 := blk_frozen BK254.out 2; obtain ⟨Ao101, co101, eo101⟩ := Kd.V_slice HO252.out; subst eo101))
                go_ret
                exact ⟨by first | rfl | (simp [errW_none, errW_some] <;> rfl) | (simp [*, errW_none, errW_some] <;> rfl), by repeat (first | (with_reducible first | exact HB.out | apply below_alloc | apply pw_below_drewN | apply below_drew1 | refine below_set ?_ GE219.out | refine below_set ?_ GE228.out | refine below_set ?_ GE235.out | refine below_set ?_ GE254.out) | exact HB.out)⟩

-- NOT PRINTED: function 6 (pelicanlaw05_TermPair)

end Go.Proofs.Ytmmmmedcgmcoaaa.P
