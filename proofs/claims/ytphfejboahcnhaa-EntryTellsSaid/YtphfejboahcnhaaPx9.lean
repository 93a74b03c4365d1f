-- Laid by a program of this session (wip/pp.py), which calls the kit's print.
import Derived.Test.YtphfejboahcnhaaPx0
import Derived.Test.YtphfejboahcnhaaPx1
import Derived.Test.YtphfejboahcnhaaPx3
import Derived.Test.YtphfejboahcnhaaPx4
import Derived.Test.YtphfejboahcnhaaPx5
import Derived.Test.YtphfejboahcnhaaPx6
import Derived.Test.YtphfejboahcnhaaPx7
import Derived.Test.YtphfejboahcnhaaPx8
import Derived.Test.YtphfejboahcnhaaHEntry
import Derived.Test.YtphfejboahcnhaaHEntryOf
import Derived.Test.YtphfejboahcnhaaHEntryPut
namespace Go.Proofs.Ytphfejboahcnhaa.P
open Go.RowKit Go.Proofs.YtphfejboahcnhaaW.PrintWords Go.Proofs.YtphfejboahcnhaaW.PrintLast Go.Proofs.YtphfejboahcnhaaW.PrintMore
attribute [local go_sem] max2_int min2_int max_two min_two max_three min_three max_four min_four   -- for this text's walks alone
set_option linter.unusedVariables false
set_option linter.unusedSimpArgs false

attribute [local go_sem high] eqA25
/-! ### pelicanref10_Same: function 15 -/
def pelicanref10_Same.l0 : Nat → List (S25) → List (S25) → Int → Option (Bool)
 | 0, _, _, _ => none
 | k + 1, x0, x1, x5 => if x5 < (x0.length : Int) then (if 0 ≤ x5 then (if x5 < (x1.length : Int) then (if (!(((rd_T25 x0 x5).f0) == ((rd_T25 x1 x5).f0)) || (!(((rd_T25 x0 x5).f1) == ((rd_T25 x1 x5).f1)) || (!(((rd_T25 x0 x5).f2) == ((rd_T25 x1 x5).f2)) || (!(((rd_T25 x0 x5).f3) == ((rd_T25 x1 x5).f3)) || (!(((rd_T25 x0 x5).f4) == ((rd_T25 x1 x5).f4)) || (!(((rd_T25 x0 x5).f5) == ((rd_T25 x1 x5).f5)) || (!(((rd_T25 x0 x5).f6) == ((rd_T25 x1 x5).f6)) || (!(((rd_T25 x0 x5).f7) == ((rd_T25 x1 x5).f7)) || (!(((rd_T25 x0 x5).f8) == ((rd_T25 x1 x5).f8))))))))))) = true then (some false) else (pelicanref10_Same.l0 k x0 x1 (wrap64 (x5 + 1)))) else (none)) else (none)) else (some true)
def pelicanref10_Same.f (k : Nat) (l0 : List (S25)) (l1 : List (S25)) : Option (Bool) := if (l0.length : Int) = (l1.length : Int) then (pelicanref10_Same.l0 k l0 l1 0) else (some false)
theorem pelicanref10_Same.mono_l : ∀ k, (∀ y0 y1 y2, LeO (pelicanref10_Same.l0 k y0 y1 y2) (pelicanref10_Same.l0 (k + 1) y0 y1 y2))
 | 0 => fun _ _ _ r h => by simp [pelicanref10_Same.l0] at h
 | k + 1 => by
  have ih0 := pelicanref10_Same.mono_l k
  ·intro y0 y1 y2
   unfold pelicanref10_Same.l0
   repeat' first
   | (with_reducible exact ih0 _ _ _)
   | (with_reducible exact LeO.refl _)
   | (with_reducible exact LeO.none _)
   | (with_reducible refine LeO.ite ?_ ?_)
   | (with_reducible refine LeO.bind ?_ (fun _ => ?_))
   | exact ih0 _ _ _
   | exact LeO.none _
   | refine LeO.ite ?_ ?_
   | refine LeO.bind ?_ (fun _ => ?_)
theorem pelicanref10_Same.mono : ∀ a0 a1 k, LeO (pelicanref10_Same.f k a0 a1) (pelicanref10_Same.f (k + 1) a0 a1) := by
 intro a0 a1 k
 have ih0 := pelicanref10_Same.mono_l k
 unfold pelicanref10_Same.f
 repeat' first
   | (with_reducible exact ih0 _ _ _)
   | (with_reducible exact LeO.refl _)
   | (with_reducible exact LeO.none _)
   | (with_reducible refine LeO.ite ?_ ?_)
   | (with_reducible refine LeO.bind ?_ (fun _ => ?_))
   | exact ih0 _ _ _
   | exact LeO.none _
   | refine LeO.ite ?_ ?_
   | refine LeO.bind ?_ (fun _ => ?_)
set_option maxHeartbeats 8000000 in
set_option maxRecDepth 100000 in
theorem pelicanref10_Same.calls (k : Nat) (A0 : Option Addr) (c0 : Nat) (l0 : List (S25)) (A1 : Option Addr) (c1 : Nat) (l1 : List (S25)) (r : Bool) (w : World) (hr0 : Kd.C k25 w A0 l0.length l0) (hc0 : l0.length ≤ c0) (hr1 : Kd.C k25 w A1 l1.length l1) (hc1 : l1.length ≤ c1) (h : pelicanref10_Same.f k l0 l1 = some r) :
  Calls Try.prog 15 #[.slice A0 l0.length c0, .slice A1 l1.length c1] w fun e w' => e = .returned (.bool r) ∧ Drawn0 w w' := by
 have hu25 := Try.underlying25
 have HR0 := Aside0.mk hr0
 have HC0 := Aside0.mk hc0
 clear hr0 hc0
 have HR1 := Aside0.mk hr1
 have HC1 := Aside0.mk hc1
 clear hr1 hc1
 have H : (if (l0.length : Int) = (l1.length : Int) then (pelicanref10_Same.l0 k l0 l1 0) else (some false)) = some r := h
 clear h
 by_cases c3 : (l0.length : Int) = (l1.length : Int)
 ·rw [if_pos c3] at H
  have c3b0 : ((l0.length : Int) == (l1.length : Int)) = true := beq_iff_eq.mpr c3
  have c3b1 : ((l0.length : Int) != (l1.length : Int)) = false := bne_eq_false_iff_eq.mpr c3
  have c3b2 : (l0.length == l1.length) = true := by first | simpa using c3 | (simp at c3 ⊢; omega)
  clear c3
  have H' := Aside0.mk H
  clear H
  go_enter Try.func15, Try.ntmps15
  go_wp2
  repeat (go_quiet (fail); try go_wp2)
  go_loopg [5] k (fun kq v5 w' => ∃ (x5_1 : Int), v5 = .int .i64 x5_1 ∧ Aside0 (pelicanref10_Same.l0 kq l0 l1 x5_1 = some r) ∧ Aside0 (kq ≤ k) ∧ Drawn0 w w')
  case atStart => exact ⟨(0), (by first | rfl | (simp; done) | (simp [*]; done)), H', ⟨Nat.le_refl _⟩, by repeat (first | exact Drawn0.refl _ | apply Drawn0.step)⟩
  case round =>
   clear H'
   try clear c1
   try clear p2
   try clear c3
   try clear c3b0
   try clear c3b1
   try clear c3b2
   obtain ⟨x5_1, rfl, HA, HK1, ⟨m1, rfl⟩⟩ := hrel
   cases gk with
   | zero => exact absurd HA.out (by simp [pelicanref10_Same.l0])
   | succ k1 =>
    have H := HA.out
    clear HA
    simp only [pelicanref10_Same.l0] at H
    by_cases c4 : x5_1 < (l0.length : Int)
    ·rw [if_pos c4] at H
     have c4b0 : decide (x5_1 < (l0.length : Int)) = true := decide_eq_true c4
     clear c4
     by_cases c5 : 0 ≤ x5_1
     ·rw [if_pos c5] at H
      have c5b0 : decide (0 ≤ x5_1) = true := decide_eq_true c5
      clear c5
      by_cases c6 : x5_1 < (l1.length : Int)
      ·rw [if_pos c6] at H
       have c6b0 : decide (x5_1 < (l1.length : Int)) = true := decide_eq_true c6
       clear c6
       by_cases c7 : (!(((rd_T25 l0 x5_1).f0) == ((rd_T25 l1 x5_1).f0)) || (!(((rd_T25 l0 x5_1).f1) == ((rd_T25 l1 x5_1).f1)) || (!(((rd_T25 l0 x5_1).f2) == ((rd_T25 l1 x5_1).f2)) || (!(((rd_T25 l0 x5_1).f3) == ((rd_T25 l1 x5_1).f3)) || (!(((rd_T25 l0 x5_1).f4) == ((rd_T25 l1 x5_1).f4)) || (!(((rd_T25 l0 x5_1).f5) == ((rd_T25 l1 x5_1).f5)) || (!(((rd_T25 l0 x5_1).f6) == ((rd_T25 l1 x5_1).f6)) || (!(((rd_T25 l0 x5_1).f7) == ((rd_T25 l1 x5_1).f7)) || (!(((rd_T25 l0 x5_1).f8) == ((rd_T25 l1 x5_1).f8))))))))))) = true
       ·rw [if_pos c7] at H
        have c7b0 : (!(((rd_T25 l0 x5_1).f0) == ((rd_T25 l1 x5_1).f0)) || (!(((rd_T25 l0 x5_1).f1) == ((rd_T25 l1 x5_1).f1)) || (!(((rd_T25 l0 x5_1).f2) == ((rd_T25 l1 x5_1).f2)) || (!(((rd_T25 l0 x5_1).f3) == ((rd_T25 l1 x5_1).f3)) || (!(((rd_T25 l0 x5_1).f4) == ((rd_T25 l1 x5_1).f4)) || (!(((rd_T25 l0 x5_1).f5) == ((rd_T25 l1 x5_1).f5)) || (!(((rd_T25 l0 x5_1).f6) == ((rd_T25 l1 x5_1).f6)) || (!(((rd_T25 l0 x5_1).f7) == ((rd_T25 l1 x5_1).f7)) || (!(((rd_T25 l0 x5_1).f8) == ((rd_T25 l1 x5_1).f8))))))))))) = true := c7
        clear c7
        obtain rfl := Option.some.inj H
        have p224 : 0 ≤ (x5_1 : Int) := of_decide_eq_true (by first | (with_reducible assumption) | assumption)
        have q224 : x5_1 < (l0.length : Int) := of_decide_eq_true (by first | (with_reducible assumption) | assumption)
        obtain ⟨ad224, e224, hx224_0, hx224_1, hx224_2, hx224_3, hx224_4, hx224_5, hx224_6, hx224_7, hx224_8⟩ := at_T25 HR0.out x5_1 p224 q224
        cases e224
        replace p224 := eq_true p224
        replace q224 := eq_true q224
        have p225 : 0 ≤ (x5_1 : Int) := of_decide_eq_true (by first | (with_reducible assumption) | assumption)
        have q225 : x5_1 < (l1.length : Int) := of_decide_eq_true (by first | (with_reducible assumption) | assumption)
        obtain ⟨ad225, e225, hx225_0, hx225_1, hx225_2, hx225_3, hx225_4, hx225_5, hx225_6, hx225_7, hx225_8⟩ := at_T25 HR1.out x5_1 p225 q225
        cases e225
        replace p225 := eq_true p225
        replace q225 := eq_true q225
        go_wp2
        repeat (go_quiet (fail); try go_wp2)
        go_ret
        exact ⟨by first | rfl | (simp; done) | (simp [*]; done), by repeat (first | exact Drawn0.refl _ | apply Drawn0.step)⟩
       ·rw [if_neg c7] at H
        have c7b0 : (!(((rd_T25 l0 x5_1).f0) == ((rd_T25 l1 x5_1).f0)) || (!(((rd_T25 l0 x5_1).f1) == ((rd_T25 l1 x5_1).f1)) || (!(((rd_T25 l0 x5_1).f2) == ((rd_T25 l1 x5_1).f2)) || (!(((rd_T25 l0 x5_1).f3) == ((rd_T25 l1 x5_1).f3)) || (!(((rd_T25 l0 x5_1).f4) == ((rd_T25 l1 x5_1).f4)) || (!(((rd_T25 l0 x5_1).f5) == ((rd_T25 l1 x5_1).f5)) || (!(((rd_T25 l0 x5_1).f6) == ((rd_T25 l1 x5_1).f6)) || (!(((rd_T25 l0 x5_1).f7) == ((rd_T25 l1 x5_1).f7)) || (!(((rd_T25 l0 x5_1).f8) == ((rd_T25 l1 x5_1).f8))))))))))) = false := by simpa using c7
        clear c7
        have H' := Aside0.mk H
        clear H
        have p224 : 0 ≤ (x5_1 : Int) := of_decide_eq_true (by first | (with_reducible assumption) | assumption)
        have q224 : x5_1 < (l0.length : Int) := of_decide_eq_true (by first | (with_reducible assumption) | assumption)
        obtain ⟨ad224, e224, hx224_0, hx224_1, hx224_2, hx224_3, hx224_4, hx224_5, hx224_6, hx224_7, hx224_8⟩ := at_T25 HR0.out x5_1 p224 q224
        cases e224
        replace p224 := eq_true p224
        replace q224 := eq_true q224
        have p225 : 0 ≤ (x5_1 : Int) := of_decide_eq_true (by first | (with_reducible assumption) | assumption)
        have q225 : x5_1 < (l1.length : Int) := of_decide_eq_true (by first | (with_reducible assumption) | assumption)
        obtain ⟨ad225, e225, hx225_0, hx225_1, hx225_2, hx225_3, hx225_4, hx225_5, hx225_6, hx225_7, hx225_8⟩ := at_T25 HR1.out x5_1 p225 q225
        cases e225
        replace p225 := eq_true p225
        replace q225 := eq_true q225
        go_wp2
        repeat (go_quiet (fail); try go_wp2)
        go_roundg k1
        case measure => have := HK1.out; omega
        case rel => exact ⟨(wrap64 (x5_1 + 1)), (by first | rfl | (simp; done) | (simp [*]; done)), H', ⟨by have := HK1.out; omega⟩, by repeat (first | exact Drawn0.refl _ | apply Drawn0.step)⟩
      ·rw [if_neg c6] at H
       exact absurd H (by simp)
     ·rw [if_neg c5] at H
      exact absurd H (by simp)
    ·rw [if_neg c4] at H
     have c4b0 : decide (x5_1 < (l0.length : Int)) = false := decide_eq_false c4
     clear c4
     obtain rfl := Option.some.inj H
     go_wp2
     repeat (go_quiet (fail); try go_wp2)
     go_ret
     exact ⟨by first | rfl | (simp; done) | (simp [*]; done), by repeat (first | exact Drawn0.refl _ | apply Drawn0.step)⟩
 ·rw [if_neg c3] at H
  have c3b0 : ((l0.length : Int) == (l1.length : Int)) = false := beq_eq_false_iff_ne.mpr c3
  have c3b1 : ((l0.length : Int) != (l1.length : Int)) = true := bne_iff_ne.mpr c3
  have c3b2 : (l0.length == l1.length) = false := by first | simpa using c3 | (simp at c3 ⊢; omega)
  obtain rfl := Option.some.inj H
  go_enter Try.func15, Try.ntmps15
  go_wp2
  repeat (go_quiet (fail); try go_wp2)
  go_ret
  exact ⟨by first | rfl | (simp; done) | (simp [*]; done), by repeat (first | exact Drawn0.refl _ | apply Drawn0.step)⟩

/-! ### pelicanref10_Of: function 17 -/
def pelicanref10_Of.l0 : Nat → List (S25) → Int → List (S25) → Int → Option ((List (S25)))
 | 0, _, _, _, _ => none
 | k + 1, x0, x1, x5, x6 => if x6 < (x0.length : Int) then (if 0 ≤ x6 then (if ((rd_T25 x0 x6).f0) = x1 then (if x5.length < 1954687338268 then (pelicanref10_Of.l0 k x0 x1 (x5 ++ [(⟨(rd_T25 x0 x6).f0, (rd_T25 x0 x6).f1, (rd_T25 x0 x6).f2, (rd_T25 x0 x6).f3, (rd_T25 x0 x6).f4, (rd_T25 x0 x6).f5, (rd_T25 x0 x6).f6, (rd_T25 x0 x6).f7, (rd_T25 x0 x6).f8⟩ : S25)]) (wrap64 (x6 + 1))) else (none)) else (pelicanref10_Of.l0 k x0 x1 x5 (wrap64 (x6 + 1)))) else (none)) else (some x5)
def pelicanref10_Of.f (k : Nat) (l0 : List (S25)) (a1 : Int) : Option ((List (S25))) := pelicanref10_Of.l0 k l0 a1 ([] : List (S25)) 0
theorem pelicanref10_Of.mono_l : ∀ k, (∀ y0 y1 y2 y3, LeO (pelicanref10_Of.l0 k y0 y1 y2 y3) (pelicanref10_Of.l0 (k + 1) y0 y1 y2 y3))
 | 0 => fun _ _ _ _ r h => by simp [pelicanref10_Of.l0] at h
 | k + 1 => by
  have ih0 := pelicanref10_Of.mono_l k
  ·intro y0 y1 y2 y3
   unfold pelicanref10_Of.l0
   repeat' first
   | (with_reducible exact ih0 _ _ _ _)
   | (with_reducible exact LeO.refl _)
   | (with_reducible exact LeO.none _)
   | (with_reducible refine LeO.ite ?_ ?_)
   | (with_reducible refine LeO.bind ?_ (fun _ => ?_))
   | exact ih0 _ _ _ _
   | exact LeO.none _
   | refine LeO.ite ?_ ?_
   | refine LeO.bind ?_ (fun _ => ?_)
theorem pelicanref10_Of.mono : ∀ a0 a1 k, LeO (pelicanref10_Of.f k a0 a1) (pelicanref10_Of.f (k + 1) a0 a1) := by
 intro a0 a1 k
 have ih0 := pelicanref10_Of.mono_l k
 unfold pelicanref10_Of.f
 repeat' first
   | (with_reducible exact ih0 _ _ _ _)
   | (with_reducible exact LeO.refl _)
   | (with_reducible exact LeO.none _)
   | (with_reducible refine LeO.ite ?_ ?_)
   | (with_reducible refine LeO.bind ?_ (fun _ => ?_))
   | exact ih0 _ _ _ _
   | exact LeO.none _
   | refine LeO.ite ?_ ?_
   | refine LeO.bind ?_ (fun _ => ?_)
set_option maxHeartbeats 8000000 in
set_option maxRecDepth 100000 in
theorem pelicanref10_Of.calls (k : Nat) (A0 : Option Addr) (c0 : Nat) (l0 : List (S25)) (a1 : Int) (r : List (S25)) (w : World) (hr0 : Kd.C k25 w A0 l0.length l0) (hc0 : l0.length ≤ c0) (h : pelicanref10_Of.f k l0 a1 = some r) :
  Calls Try.prog 17 #[.slice A0 l0.length c0, .int .i64 a1] w fun e w' => ∃ v0_ : Value, e = .returned (v0_) ∧ Kd.R k25 25 w' w.heap.size (fun _ => True) v0_ r ∧ Below w.heap.size w w' := by
 have hu25 := Try.underlying25
 have HR0 := Aside0.mk hr0
 have HC0 := Aside0.mk hc0
 clear hr0 hc0
 have HB := Aside0.mk (Below.refl w.heap.size w)
 have H : (pelicanref10_Of.l0 k l0 a1 ([] : List (S25)) 0) = some r := h
 clear h
 have H' := Aside0.mk H
 clear H
 go_enter Try.func17, Try.ntmps17
 go_wp2
 go_loopg [5, 6] k (fun kq v5 v6 w' => ∃ (x5_1 : List (S25)) (x6_1 : Int), v6 = .int .i64 x6_1 ∧ Aside0 (pelicanref10_Of.l0 kq l0 a1 x5_1 x6_1 = some r) ∧ Aside0 (kq ≤ k) ∧ Aside0 (Kd.R k25 25 w' w.heap.size (fun _ => True) v5 x5_1) ∧ Aside0 (Below w.heap.size w w'))
 case atStart => exact ⟨(([] : List (S25))), (0), (by first | rfl | (simp; done) | (simp [*]; done)), H', ⟨Nat.le_refl _⟩, ⟨by first | exact Kd.R_nil _ _ _ _ _ | exact Kd.N_nil _ _ _ _ _ | exact Kd.V_nil _ _ _ _ _ | exact Kd.Q_nil _ _ _ _ _ | exact Kd.S_nil _ _ _ _ _⟩, ⟨by repeat (first | (with_reducible first | exact HB.out | apply below_alloc | apply pw_below_drewN | apply below_drew1) | exact HB.out)⟩⟩
 case round =>
  clear H'
  try clear c1
  try clear p2
  obtain ⟨x5_1, x6_1, rfl, HA, HK1, HO_5, HB⟩ := hrel
  cases gk with
  | zero => exact absurd HA.out (by simp [pelicanref10_Of.l0])
  | succ k1 =>
   have H := HA.out
   clear HA
   simp only [pelicanref10_Of.l0] at H
   by_cases c3 : x6_1 < (l0.length : Int)
   ·rw [if_pos c3] at H
    have c3b0 : decide (x6_1 < (l0.length : Int)) = true := decide_eq_true c3
    clear c3
    by_cases c4 : 0 ≤ x6_1
    ·rw [if_pos c4] at H
     have c4b0 : decide (0 ≤ x6_1) = true := decide_eq_true c4
     clear c4
     by_cases c5 : ((rd_T25 l0 x6_1).f0) = a1
     ·rw [if_pos c5] at H
      have c5b0 : (((rd_T25 l0 x6_1).f0) == a1) = true := beq_iff_eq.mpr c5
      have c5b1 : (((rd_T25 l0 x6_1).f0) != a1) = false := bne_eq_false_iff_eq.mpr c5
      clear c5
      by_cases c6 : x5_1.length < 1954687338268
      ·rw [if_pos c6] at H
       have LMc6 := Aside0.mk c6
       clear c6
       obtain ⟨y228, hy228⟩ : ∃ y_ : List (S25), y_ = (x5_1 ++ [(⟨(rd_T25 l0 x6_1).f0, (rd_T25 l0 x6_1).f1, (rd_T25 l0 x6_1).f2, (rd_T25 l0 x6_1).f3, (rd_T25 l0 x6_1).f4, (rd_T25 l0 x6_1).f5, (rd_T25 l0 x6_1).f6, (rd_T25 l0 x6_1).f7, (rd_T25 l0 x6_1).f8⟩ : S25)]) := ⟨_, rfl⟩
       replace H : (pelicanref10_Of.l0 k1 l0 a1 y228 (wrap64 (x6_1 + 1))) = some r := by first | (rw [hy228]; with_reducible exact H) | (have H2_ := (Option.bind_some _ _).symm.trans H; rw [hy228]; with_reducible exact H2_) | (have H2_ := (Option.bind_some _ _).symm.trans H; with_reducible exact H2_) | with_reducible exact H | (rw [hy228]; exact H) | exact H
       have Ny228 := Aside0.mk hy228
       clear hy228
       have H' := Aside0.mk H
       clear H
       have p226 : 0 ≤ (x6_1 : Int) := of_decide_eq_true (by first | (with_reducible assumption) | assumption)
       have q226 : x6_1 < (l0.length : Int) := of_decide_eq_true (by first | (with_reducible assumption) | assumption)
       obtain ⟨ad226, e226, hx226_0, hx226_1, hx226_2, hx226_3, hx226_4, hx226_5, hx226_6, hx226_7, hx226_8⟩ := at_T25 HR0.out x6_1 p226 q226
       cases e226
       replace hx226_0 := (HB.out.cell (World.block_lt_of_cell? w _ hx226_0)).trans hx226_0
       replace hx226_1 := (HB.out.cell (World.block_lt_of_cell? w _ hx226_1)).trans hx226_1
       replace hx226_2 := (HB.out.cell (World.block_lt_of_cell? w _ hx226_2)).trans hx226_2
       replace hx226_3 := (HB.out.cell (World.block_lt_of_cell? w _ hx226_3)).trans hx226_3
       replace hx226_4 := (HB.out.cell (World.block_lt_of_cell? w _ hx226_4)).trans hx226_4
       replace hx226_5 := (HB.out.cell (World.block_lt_of_cell? w _ hx226_5)).trans hx226_5
       replace hx226_6 := (HB.out.cell (World.block_lt_of_cell? w _ hx226_6)).trans hx226_6
       replace hx226_7 := (HB.out.cell (World.block_lt_of_cell? w _ hx226_7)).trans hx226_7
       replace hx226_8 := (HB.out.cell (World.block_lt_of_cell? w _ hx226_8)).trans hx226_8
       replace p226 := eq_true p226
       replace q226 := eq_true q226
       have p227 : 0 ≤ (x6_1 : Int) := of_decide_eq_true (by first | (with_reducible assumption) | assumption)
       have q227 : x6_1 < (l0.length : Int) := of_decide_eq_true (by first | (with_reducible assumption) | assumption)
       obtain ⟨ad227, e227, hx227_0, hx227_1, hx227_2, hx227_3, hx227_4, hx227_5, hx227_6, hx227_7, hx227_8⟩ := at_T25 HR0.out x6_1 p227 q227
       obtain rfl : ad226 = ad227 := (by injection e227)
       replace hx227_0 := (HB.out.cell (World.block_lt_of_cell? w _ hx227_0)).trans hx227_0
       replace hx227_1 := (HB.out.cell (World.block_lt_of_cell? w _ hx227_1)).trans hx227_1
       replace hx227_2 := (HB.out.cell (World.block_lt_of_cell? w _ hx227_2)).trans hx227_2
       replace hx227_3 := (HB.out.cell (World.block_lt_of_cell? w _ hx227_3)).trans hx227_3
       replace hx227_4 := (HB.out.cell (World.block_lt_of_cell? w _ hx227_4)).trans hx227_4
       replace hx227_5 := (HB.out.cell (World.block_lt_of_cell? w _ hx227_5)).trans hx227_5
       replace hx227_6 := (HB.out.cell (World.block_lt_of_cell? w _ hx227_6)).trans hx227_6
       replace hx227_7 := (HB.out.cell (World.block_lt_of_cell? w _ hx227_7)).trans hx227_7
       replace hx227_8 := (HB.out.cell (World.block_lt_of_cell? w _ hx227_8)).trans hx227_8
       replace p227 := eq_true p227
       replace q227 := eq_true q227
       go_wp2_with (first | ((with_reducible refine gate_builtin (b := .append) (xs := #[.tmp 20, .tmp 25]) rfl ?_); at_builtin; refine Kd.R_append k25 (w0 := w) w.heap.size rfl (.tmp 20) (.tmp 25) 27 25 (.agg #[(.int .i64 0), (.int .i64 0), (.int .i64 0), (.int .i64 0), (.int .u64 0), (.int .u64 0), (.int .i64 0), (.int .i64 0), (.int .i64 0)]) 72 rfl Try.underlying27 info25 rfl (by decide) (by omega) u5 x5_1 (⟨(rd_T25 l0 x6_1).f0, (rd_T25 l0 x6_1).f1, (rd_T25 l0 x6_1).f2, (rd_T25 l0 x6_1).f3, (rd_T25 l0 x6_1).f4, (rd_T25 l0 x6_1).f5, (rd_T25 l0 x6_1).f6, (rd_T25 l0 x6_1).f7, (rd_T25 l0 x6_1).f8⟩ : S25) [.int .i64 ((rd_T25 l0 x6_1).f0), .int .i64 ((rd_T25 l0 x6_1).f1), .int .i64 ((rd_T25 l0 x6_1).f2), .int .i64 ((rd_T25 l0 x6_1).f3), .int .u64 ((rd_T25 l0 x6_1).f4), .int .u64 ((rd_T25 l0 x6_1).f5), .int .i64 ((rd_T25 l0 x6_1).f6), .int .i64 ((rd_T25 l0 x6_1).f7), .int .i64 ((rd_T25 l0 x6_1).f8)] (fun _ => True) (fun _ => False) rfl rfl ?aP (fun _ hk => hk.elim) ?aF ?aO ?aB ?aS ?aL ?_; (case aP => exact k25_mkM _ _ _ (⟨(rd_T25 l0 x6_1).f0, (rd_T25 l0 x6_1).f1, (rd_T25 l0 x6_1).f2, (rd_T25 l0 x6_1).f3, (rd_T25 l0 x6_1).f4, (rd_T25 l0 x6_1).f5, (rd_T25 l0 x6_1).f6, (rd_T25 l0 x6_1).f7, (rd_T25 l0 x6_1).f8⟩ : S25)); (case aB => exact (by repeat (first | (with_reducible first | exact HB.out | apply below_alloc | apply pw_below_drewN | apply below_drew1) | exact HB.out))); (case aF => exact (fun _ _ => trivial)); (case aO => exact (by (with_reducible repeat (first | apply Kd.R_alloc | apply Kd.R_drewN | apply Kd.R_drew)); exact HO_5.out)); (case aS => exact (below_size (by repeat (first | (with_reducible first | exact HB.out | apply below_alloc | apply pw_below_drewN | apply below_drew1) | exact HB.out)))); (case aL => have := LMc6.out; omega); intro v229 w7 ho hb hg hat; rw [← Ny228.out] at ho; have n0_ := Aside0.mk (hb); have n1_ := Aside0.mk (ho); clear HB; clear HO_5; have HB := n0_; have HO230 := n1_; clear n0_ n1_; clear ho hb hg hat))
       go_roundg k1
       case measure => have := HK1.out; omega
       case rel => exact ⟨(y228), (wrap64 (x6_1 + 1)), (by first | rfl | (simp; done) | (simp [*]; done)), H', ⟨by have := HK1.out; omega⟩, ⟨by (with_reducible repeat (first | apply Kd.R_alloc | apply Kd.R_drewN | apply Kd.R_drew)); exact HO230.out⟩, ⟨by repeat (first | (with_reducible first | exact HB.out | apply below_alloc | apply pw_below_drewN | apply below_drew1) | exact HB.out)⟩⟩
      ·rw [if_neg c6] at H
       exact absurd H (by simp)
     ·rw [if_neg c5] at H
      have c5b0 : (((rd_T25 l0 x6_1).f0) == a1) = false := beq_eq_false_iff_ne.mpr c5
      have c5b1 : (((rd_T25 l0 x6_1).f0) != a1) = true := bne_iff_ne.mpr c5
      have H' := Aside0.mk H
      clear H
      have p226 : 0 ≤ (x6_1 : Int) := of_decide_eq_true (by first | (with_reducible assumption) | assumption)
      have q226 : x6_1 < (l0.length : Int) := of_decide_eq_true (by first | (with_reducible assumption) | assumption)
      obtain ⟨ad226, e226, hx226_0, hx226_1, hx226_2, hx226_3, hx226_4, hx226_5, hx226_6, hx226_7, hx226_8⟩ := at_T25 HR0.out x6_1 p226 q226
      cases e226
      replace hx226_0 := (HB.out.cell (World.block_lt_of_cell? w _ hx226_0)).trans hx226_0
      replace hx226_1 := (HB.out.cell (World.block_lt_of_cell? w _ hx226_1)).trans hx226_1
      replace hx226_2 := (HB.out.cell (World.block_lt_of_cell? w _ hx226_2)).trans hx226_2
      replace hx226_3 := (HB.out.cell (World.block_lt_of_cell? w _ hx226_3)).trans hx226_3
      replace hx226_4 := (HB.out.cell (World.block_lt_of_cell? w _ hx226_4)).trans hx226_4
      replace hx226_5 := (HB.out.cell (World.block_lt_of_cell? w _ hx226_5)).trans hx226_5
      replace hx226_6 := (HB.out.cell (World.block_lt_of_cell? w _ hx226_6)).trans hx226_6
      replace hx226_7 := (HB.out.cell (World.block_lt_of_cell? w _ hx226_7)).trans hx226_7
      replace hx226_8 := (HB.out.cell (World.block_lt_of_cell? w _ hx226_8)).trans hx226_8
      replace p226 := eq_true p226
      replace q226 := eq_true q226
      go_wp2
      go_roundg k1
      case measure => have := HK1.out; omega
      case rel => exact ⟨(x5_1), (wrap64 (x6_1 + 1)), (by first | rfl | (simp; done) | (simp [*]; done)), H', ⟨by have := HK1.out; omega⟩, ⟨by (with_reducible repeat (first | apply Kd.R_alloc | apply Kd.R_drewN | apply Kd.R_drew)); exact HO_5.out⟩, ⟨by repeat (first | (with_reducible first | exact HB.out | apply below_alloc | apply pw_below_drewN | apply below_drew1) | exact HB.out)⟩⟩
    ·rw [if_neg c4] at H
     exact absurd H (by simp)
   ·rw [if_neg c3] at H
    have c3b0 : decide (x6_1 < (l0.length : Int)) = false := decide_eq_false c3
    clear c3
    obtain rfl := Option.some.inj H
    go_wp2
    go_ret
    exact ⟨_, by first | rfl | (simp [errW_none, errW_some] <;> rfl) | (simp [*, errW_none, errW_some] <;> rfl), by (with_reducible repeat (first | apply Kd.R_alloc | apply Kd.R_drewN | apply Kd.R_drew)); exact HO_5.out, by repeat (first | (with_reducible first | exact HB.out | apply below_alloc | apply pw_below_drewN | apply below_drew1) | exact HB.out)⟩

/-! ### pelicanref10_Epoch: function 21 -/
def pelicanref10_Epoch.l0 : Nat → List (S25) → Int → Int → Option (Int)
 | 0, _, _, _ => none
 | k + 1, x0, x3, x4 => if x4 < (x0.length : Int) then (if 0 ≤ x4 then (if ((rd_T25 x0 x4).f0) = 0 then (pelicanref10_Epoch.l0 k x0 ((rd_T25 x0 x4).f2) (wrap64 (x4 + 1))) else (pelicanref10_Epoch.l0 k x0 x3 (wrap64 (x4 + 1)))) else (none)) else (some x3)
def pelicanref10_Epoch.f (k : Nat) (l0 : List (S25)) : Option (Int) := pelicanref10_Epoch.l0 k l0 0 0
theorem pelicanref10_Epoch.mono_l : ∀ k, (∀ y0 y1 y2, LeO (pelicanref10_Epoch.l0 k y0 y1 y2) (pelicanref10_Epoch.l0 (k + 1) y0 y1 y2))
 | 0 => fun _ _ _ r h => by simp [pelicanref10_Epoch.l0] at h
 | k + 1 => by
  have ih0 := pelicanref10_Epoch.mono_l k
  ·intro y0 y1 y2
   unfold pelicanref10_Epoch.l0
   repeat' first
   | (with_reducible exact ih0 _ _ _)
   | (with_reducible exact LeO.refl _)
   | (with_reducible exact LeO.none _)
   | (with_reducible refine LeO.ite ?_ ?_)
   | (with_reducible refine LeO.bind ?_ (fun _ => ?_))
   | exact ih0 _ _ _
   | exact LeO.none _
   | refine LeO.ite ?_ ?_
   | refine LeO.bind ?_ (fun _ => ?_)
theorem pelicanref10_Epoch.mono : ∀ a0 k, LeO (pelicanref10_Epoch.f k a0) (pelicanref10_Epoch.f (k + 1) a0) := by
 intro a0 k
 have ih0 := pelicanref10_Epoch.mono_l k
 unfold pelicanref10_Epoch.f
 repeat' first
   | (with_reducible exact ih0 _ _ _)
   | (with_reducible exact LeO.refl _)
   | (with_reducible exact LeO.none _)
   | (with_reducible refine LeO.ite ?_ ?_)
   | (with_reducible refine LeO.bind ?_ (fun _ => ?_))
   | exact ih0 _ _ _
   | exact LeO.none _
   | refine LeO.ite ?_ ?_
   | refine LeO.bind ?_ (fun _ => ?_)
set_option maxHeartbeats 8000000 in
set_option maxRecDepth 100000 in
theorem pelicanref10_Epoch.calls (k : Nat) (A0 : Option Addr) (c0 : Nat) (l0 : List (S25)) (r : Int) (w : World) (hr0 : Kd.C k25 w A0 l0.length l0) (hc0 : l0.length ≤ c0) (h : pelicanref10_Epoch.f k l0 = some r) :
  Calls Try.prog 21 #[.slice A0 l0.length c0] w fun e w' => e = .returned (.int .i64 r) ∧ Drawn0 w w' := by
 have HR0 := Aside0.mk hr0
 have HC0 := Aside0.mk hc0
 clear hr0 hc0
 have H : (pelicanref10_Epoch.l0 k l0 0 0) = some r := h
 clear h
 have H' := Aside0.mk H
 clear H
 go_enter Try.func21, Try.ntmps21
 go_wp2
 go_loopg [3, 4] k (fun kq v3 v4 w' => ∃ (x3_1 : Int) (x4_1 : Int), v3 = .int .i64 x3_1 ∧ v4 = .int .i64 x4_1 ∧ Aside0 (pelicanref10_Epoch.l0 kq l0 x3_1 x4_1 = some r) ∧ Aside0 (kq ≤ k) ∧ Drawn0 w w')
 case atStart => exact ⟨(0), (0), (by first | rfl | (simp; done) | (simp [*]; done)), (by first | rfl | (simp; done) | (simp [*]; done)), H', ⟨Nat.le_refl _⟩, by repeat (first | exact Drawn0.refl _ | apply Drawn0.step)⟩
 case round =>
  clear H'
  obtain ⟨x3_1, x4_1, rfl, rfl, HA, HK1, ⟨m1, rfl⟩⟩ := hrel
  cases gk with
  | zero => exact absurd HA.out (by simp [pelicanref10_Epoch.l0])
  | succ k1 =>
   have H := HA.out
   clear HA
   simp only [pelicanref10_Epoch.l0] at H
   by_cases c2 : x4_1 < (l0.length : Int)
   ·rw [if_pos c2] at H
    have c2b0 : decide (x4_1 < (l0.length : Int)) = true := decide_eq_true c2
    clear c2
    by_cases c3 : 0 ≤ x4_1
    ·rw [if_pos c3] at H
     have c3b0 : decide (0 ≤ x4_1) = true := decide_eq_true c3
     clear c3
     by_cases c4 : ((rd_T25 l0 x4_1).f0) = 0
     ·rw [if_pos c4] at H
      have c4b0 : (((rd_T25 l0 x4_1).f0) == 0) = true := beq_iff_eq.mpr c4
      have c4b1 : (((rd_T25 l0 x4_1).f0) != 0) = false := bne_eq_false_iff_eq.mpr c4
      clear c4
      have H' := Aside0.mk H
      clear H
      have p231 : 0 ≤ (x4_1 : Int) := of_decide_eq_true (by first | (with_reducible assumption) | assumption)
      have q231 : x4_1 < (l0.length : Int) := of_decide_eq_true (by first | (with_reducible assumption) | assumption)
      obtain ⟨ad231, e231, hx231_0, hx231_1, hx231_2, hx231_3, hx231_4, hx231_5, hx231_6, hx231_7, hx231_8⟩ := at_T25 HR0.out x4_1 p231 q231
      cases e231
      replace p231 := eq_true p231
      replace q231 := eq_true q231
      have p232 : 0 ≤ (x4_1 : Int) := of_decide_eq_true (by first | (with_reducible assumption) | assumption)
      have q232 : x4_1 < (l0.length : Int) := of_decide_eq_true (by first | (with_reducible assumption) | assumption)
      obtain ⟨ad232, e232, hx232_0, hx232_1, hx232_2, hx232_3, hx232_4, hx232_5, hx232_6, hx232_7, hx232_8⟩ := at_T25 HR0.out x4_1 p232 q232
      obtain rfl : ad231 = ad232 := (by injection e232)
      replace p232 := eq_true p232
      replace q232 := eq_true q232
      go_wp2
      go_roundg k1
      case measure => have := HK1.out; omega
      case rel => exact ⟨((rd_T25 l0 x4_1).f2), (wrap64 (x4_1 + 1)), (by first | rfl | (simp; done) | (simp [*]; done)), (by first | rfl | (simp; done) | (simp [*]; done)), H', ⟨by have := HK1.out; omega⟩, by repeat (first | exact Drawn0.refl _ | apply Drawn0.step)⟩
     ·rw [if_neg c4] at H
      have c4b0 : (((rd_T25 l0 x4_1).f0) == 0) = false := beq_eq_false_iff_ne.mpr c4
      have c4b1 : (((rd_T25 l0 x4_1).f0) != 0) = true := bne_iff_ne.mpr c4
      have H' := Aside0.mk H
      clear H
      have p231 : 0 ≤ (x4_1 : Int) := of_decide_eq_true (by first | (with_reducible assumption) | assumption)
      have q231 : x4_1 < (l0.length : Int) := of_decide_eq_true (by first | (with_reducible assumption) | assumption)
      obtain ⟨ad231, e231, hx231_0, hx231_1, hx231_2, hx231_3, hx231_4, hx231_5, hx231_6, hx231_7, hx231_8⟩ := at_T25 HR0.out x4_1 p231 q231
      cases e231
      replace p231 := eq_true p231
      replace q231 := eq_true q231
      go_wp2
      go_roundg k1
      case measure => have := HK1.out; omega
      case rel => exact ⟨(x3_1), (wrap64 (x4_1 + 1)), (by first | rfl | (simp; done) | (simp [*]; done)), (by first | rfl | (simp; done) | (simp [*]; done)), H', ⟨by have := HK1.out; omega⟩, by repeat (first | exact Drawn0.refl _ | apply Drawn0.step)⟩
    ·rw [if_neg c3] at H
     exact absurd H (by simp)
   ·rw [if_neg c2] at H
    have c2b0 : decide (x4_1 < (l0.length : Int)) = false := decide_eq_false c2
    clear c2
    obtain rfl := Option.some.inj H
    go_wp2
    go_ret
    exact ⟨by first | rfl | (simp; done) | (simp [*]; done), by repeat (first | exact Drawn0.refl _ | apply Drawn0.step)⟩

/-! ### pelicanlaw10_EntryTells: function 3 -/
def pelicanlaw10_EntryTells.j0 : Nat → List Int → List (S25) → List (S25) → Int → Bool → Bool → Int → Int → Int → Int → Int → Int → Int → Int → Int → Option (Bool)
 | 0, _, _, _, _, _, _, _, _, _, _, _, _, _, _, _ => none
 | k + 1, x1, x2, x3, x4, x11, x40, x234000, x234001, x234002, x234003, x234004, x234005, x234006, x234007, x234008 => if x40 = true then (some x11) else ((entry_Put.f k x234000 x234001 x234002 x234003 x234004 x234005 x234006 x234007 x234008).bind fun bt235 => ((pelicanref10_Put.f k x234000 x234001 x234002 x234003 x234004 x234005 x234006 x234007 x234008).bind fun bt239 => ((entry_Get.f k x1).bind fun bt243 => ((pelicanref10_Get.f k x1).bind fun bt254 => ((pelicanref10_May.f x234000 x234001 x234002 x234003 x234004 x234005 x234006 x234007 x234008).bind fun t265 => ((pelicanref10_Same.f k x2 x3).bind fun t266 => ((entry_Of.f x2 x4).bind fun t267 => ((pelicanref10_Of.f k x2 x4).bind fun t270 => ((pelicanref10_Same.f k t267 t270).bind fun t273 => (if (strOfNums bt235.1).toList = (strOfNums bt239.1).toList then (if (bt235.2 == bt239.2) = true then (if (bt243.1 == bt254.1 && (bt243.2.1 == bt254.2.1 && (bt243.2.2.1 == bt254.2.2.1 && (bt243.2.2.2.1 == bt254.2.2.2.1 && (bt243.2.2.2.2.1 == bt254.2.2.2.2.1 && (bt243.2.2.2.2.2.1 == bt254.2.2.2.2.2.1 && (bt243.2.2.2.2.2.2.1 == bt254.2.2.2.2.2.2.1 && (bt243.2.2.2.2.2.2.2.1 == bt254.2.2.2.2.2.2.2.1 && (bt243.2.2.2.2.2.2.2.2.1 == bt254.2.2.2.2.2.2.2.2.1))))))))) = true then (if (bt243.2.2.2.2.2.2.2.2.2 == bt254.2.2.2.2.2.2.2.2.2) = true then ((entry_May.f x234000 x234001 x234002 x234003 x234004 x234005 x234006 x234007 x234008).bind fun t274 => (if (t274 == t265) = true then ((entry_Same.f k x2 x3).bind fun t275 => (if (t275 == t266) = true then (if t273 = true then ((entry_Epoch.f x2).bind fun t276 => ((pelicanref10_Epoch.f k x2).bind fun t277 => (some (t276 == t277)))) else (some false)) else (some false))) else (some false))) else (some false)) else (some false)) else (some false)) else (some false)))))))))))
def pelicanlaw10_EntryTells.f (k : Nat) (a0_0 : Int) (a0_1 : Int) (a0_2 : Int) (a0_3 : Int) (a0_4 : Int) (a0_5 : Int) (a0_6 : Int) (a0_7 : Int) (a0_8 : Int) (l1 : List Int) (l2 : List (S25)) (l3 : List (S25)) (a4 : Int) : Option (Bool) := (pelicanlaw10_awake.f k).bind fun t234 => (if t234 = true then (if (l1.length : Int) > 100 then (pelicanlaw10_EntryTells.j0 k l1 l2 l3 a4 t234 true a0_0 a0_1 a0_2 a0_3 a0_4 a0_5 a0_6 a0_7 a0_8) else (if (l2.length : Int) > 300 then (pelicanlaw10_EntryTells.j0 k l1 l2 l3 a4 t234 true a0_0 a0_1 a0_2 a0_3 a0_4 a0_5 a0_6 a0_7 a0_8) else (pelicanlaw10_EntryTells.j0 k l1 l2 l3 a4 t234 (decide ((l3.length : Int) > 300)) a0_0 a0_1 a0_2 a0_3 a0_4 a0_5 a0_6 a0_7 a0_8))) else (pelicanlaw10_EntryTells.j0 k l1 l2 l3 a4 t234 true a0_0 a0_1 a0_2 a0_3 a0_4 a0_5 a0_6 a0_7 a0_8))
theorem pelicanlaw10_EntryTells.mono_l : ∀ k, (∀ y0 y1 y2 y3 y4 y5 y6 y7 y8 y9 y10 y11 y12 y13 y14, LeO (pelicanlaw10_EntryTells.j0 k y0 y1 y2 y3 y4 y5 y6 y7 y8 y9 y10 y11 y12 y13 y14) (pelicanlaw10_EntryTells.j0 (k + 1) y0 y1 y2 y3 y4 y5 y6 y7 y8 y9 y10 y11 y12 y13 y14))
 | 0 => fun _ _ _ _ _ _ _ _ _ _ _ _ _ _ _ r h => by simp [pelicanlaw10_EntryTells.j0] at h
 | k + 1 => by
  have ih0 := pelicanlaw10_EntryTells.mono_l k
  ·intro y0 y1 y2 y3 y4 y5 y6 y7 y8 y9 y10 y11 y12 y13 y14
   unfold pelicanlaw10_EntryTells.j0
   repeat' first
   | (with_reducible exact ih0 _ _ _ _ _ _ _ _ _ _ _ _ _ _ _)
   | (with_reducible exact entry_Get.mono _ _)
   | (with_reducible exact entry_Put.mono _ _ _ _ _ _ _ _ _ _)
   | (with_reducible exact entry_Same.mono _ _ _)
   | (with_reducible exact pelicanlaw10_awake.mono _)
   | (with_reducible exact pelicanref10_Epoch.mono _ _)
   | (with_reducible exact pelicanref10_Get.mono _ _)
   | (with_reducible exact pelicanref10_Of.mono _ _ _)
   | (with_reducible exact pelicanref10_Put.mono _ _ _ _ _ _ _ _ _ _)
   | (with_reducible exact pelicanref10_Same.mono _ _ _)
   | (with_reducible exact LeO.refl _)
   | (with_reducible exact LeO.none _)
   | (with_reducible refine LeO.ite ?_ ?_)
   | (with_reducible refine LeO.bind ?_ (fun _ => ?_))
   | exact ih0 _ _ _ _ _ _ _ _ _ _ _ _ _ _ _
   | exact entry_Get.mono _ _
   | exact entry_Put.mono _ _ _ _ _ _ _ _ _ _
   | exact entry_Same.mono _ _ _
   | exact pelicanlaw10_awake.mono _
   | exact pelicanref10_Epoch.mono _ _
   | exact pelicanref10_Get.mono _ _
   | exact pelicanref10_Of.mono _ _ _
   | exact pelicanref10_Put.mono _ _ _ _ _ _ _ _ _ _
   | exact pelicanref10_Same.mono _ _ _
   | exact LeO.none _
   | refine LeO.ite ?_ ?_
   | refine LeO.bind ?_ (fun _ => ?_)
theorem pelicanlaw10_EntryTells.mono : ∀ a0 a1 a2 a3 a4 a5 a6 a7 a8 a9 a10 a11 a12 k, LeO (pelicanlaw10_EntryTells.f k a0 a1 a2 a3 a4 a5 a6 a7 a8 a9 a10 a11 a12) (pelicanlaw10_EntryTells.f (k + 1) a0 a1 a2 a3 a4 a5 a6 a7 a8 a9 a10 a11 a12) := by
 intro a0 a1 a2 a3 a4 a5 a6 a7 a8 a9 a10 a11 a12 k
 have ih0 := pelicanlaw10_EntryTells.mono_l k
 unfold pelicanlaw10_EntryTells.f
 repeat' first
   | (with_reducible exact ih0 _ _ _ _ _ _ _ _ _ _ _ _ _ _ _)
   | (with_reducible exact entry_Get.mono _ _)
   | (with_reducible exact entry_Put.mono _ _ _ _ _ _ _ _ _ _)
   | (with_reducible exact entry_Same.mono _ _ _)
   | (with_reducible exact pelicanlaw10_awake.mono _)
   | (with_reducible exact pelicanref10_Epoch.mono _ _)
   | (with_reducible exact pelicanref10_Get.mono _ _)
   | (with_reducible exact pelicanref10_Of.mono _ _ _)
   | (with_reducible exact pelicanref10_Put.mono _ _ _ _ _ _ _ _ _ _)
   | (with_reducible exact pelicanref10_Same.mono _ _ _)
   | (with_reducible exact LeO.refl _)
   | (with_reducible exact LeO.none _)
   | (with_reducible refine LeO.ite ?_ ?_)
   | (with_reducible refine LeO.bind ?_ (fun _ => ?_))
   | exact ih0 _ _ _ _ _ _ _ _ _ _ _ _ _ _ _
   | exact entry_Get.mono _ _
   | exact entry_Put.mono _ _ _ _ _ _ _ _ _ _
   | exact entry_Same.mono _ _ _
   | exact pelicanlaw10_awake.mono _
   | exact pelicanref10_Epoch.mono _ _
   | exact pelicanref10_Get.mono _ _
   | exact pelicanref10_Of.mono _ _ _
   | exact pelicanref10_Put.mono _ _ _ _ _ _ _ _ _ _
   | exact pelicanref10_Same.mono _ _ _
   | exact LeO.none _
   | refine LeO.ite ?_ ?_
   | refine LeO.bind ?_ (fun _ => ?_)
set_option maxHeartbeats 8000000 in
set_option maxRecDepth 100000 in
theorem pelicanlaw10_EntryTells.calls (k : Nat) (a0_0 : Int) (a0_1 : Int) (a0_2 : Int) (a0_3 : Int) (a0_4 : Int) (a0_5 : Int) (a0_6 : Int) (a0_7 : Int) (a0_8 : Int) (A1 : Option Addr) (c1 : Nat) (l1 : List Int) (A2 : Option Addr) (c2 : Nat) (l2 : List (S25)) (A3 : Option Addr) (c3 : Nat) (l3 : List (S25)) (a4 : Int) (r : Bool) (w : World) (hr1 : Kd.C (Kd.int .u8) w A1 l1.length l1) (hc1 : l1.length ≤ c1) (hr2 : Kd.C k25 w A2 l2.length l2) (hc2 : l2.length ≤ c2) (hr3 : Kd.C k25 w A3 l3.length l3) (hc3 : l3.length ≤ c3) (h : pelicanlaw10_EntryTells.f k a0_0 a0_1 a0_2 a0_3 a0_4 a0_5 a0_6 a0_7 a0_8 l1 l2 l3 a4 = some r) (hr_0 : r = true) :
  Calls Try.prog 3 #[.agg #[.int .i64 a0_0, .int .i64 a0_1, .int .i64 a0_2, .int .i64 a0_3, .int .u64 a0_4, .int .u64 a0_5, .int .i64 a0_6, .int .i64 a0_7, .int .i64 a0_8], .slice A1 l1.length c1, .slice A2 l2.length c2, .slice A3 l3.length c3, .int .i64 a4] w fun e w' => e = .returned (.bool r) ∧ Below w.heap.size w w' := by
 have hr_ := Aside0.mk hr_0
 clear hr_0
 have hu25 := Try.underlying25
 have HR1 := Aside0.mk hr1
 have HC1 := Aside0.mk hc1
 clear hr1 hc1
 have HR2 := Aside0.mk hr2
 have HC2 := Aside0.mk hc2
 clear hr2 hc2
 have HR3 := Aside0.mk hr3
 have HC3 := Aside0.mk hc3
 clear hr3 hc3
 have HB := Aside0.mk (Below.refl w.heap.size w)
 have H : ((pelicanlaw10_awake.f k).bind fun t234 => (if t234 = true then (if (l1.length : Int) > 100 then (pelicanlaw10_EntryTells.j0 k l1 l2 l3 a4 t234 true a0_0 a0_1 a0_2 a0_3 a0_4 a0_5 a0_6 a0_7 a0_8) else (if (l2.length : Int) > 300 then (pelicanlaw10_EntryTells.j0 k l1 l2 l3 a4 t234 true a0_0 a0_1 a0_2 a0_3 a0_4 a0_5 a0_6 a0_7 a0_8) else (pelicanlaw10_EntryTells.j0 k l1 l2 l3 a4 t234 (decide ((l3.length : Int) > 300)) a0_0 a0_1 a0_2 a0_3 a0_4 a0_5 a0_6 a0_7 a0_8))) else (pelicanlaw10_EntryTells.j0 k l1 l2 l3 a4 t234 true a0_0 a0_1 a0_2 a0_3 a0_4 a0_5 a0_6 a0_7 a0_8))) = some r := h
 clear h
 replace H := Option.bind_eq_some_iff.mp H
 obtain ⟨t234, A60, H⟩ := H
 replace H : (if t234 = true then (if (l1.length : Int) > 100 then (pelicanlaw10_EntryTells.j0 k l1 l2 l3 a4 t234 true a0_0 a0_1 a0_2 a0_3 a0_4 a0_5 a0_6 a0_7 a0_8) else (if (l2.length : Int) > 300 then (pelicanlaw10_EntryTells.j0 k l1 l2 l3 a4 t234 true a0_0 a0_1 a0_2 a0_3 a0_4 a0_5 a0_6 a0_7 a0_8) else (pelicanlaw10_EntryTells.j0 k l1 l2 l3 a4 t234 (decide ((l3.length : Int) > 300)) a0_0 a0_1 a0_2 a0_3 a0_4 a0_5 a0_6 a0_7 a0_8))) else (pelicanlaw10_EntryTells.j0 k l1 l2 l3 a4 t234 true a0_0 a0_1 a0_2 a0_3 a0_4 a0_5 a0_6 a0_7 a0_8)) = some r := H
 have A6 := Aside0.mk A60
 clear A60
 have HC7 := Aside0.mk H
 clear H
 go_enter Try.func3, Try.ntmps3
 go_upto_region 2 with (first | ((with_reducible refine gate_dst (N := 5) rfl ?_); (try (refine gate_guard (by rfl) ?_; dsimp only)); refine box_event ?hg (N := 5) ?hd (cs := #[.int .i64 a0_0, .int .i64 a0_1, .int .i64 a0_2, .int .i64 a0_3, .int .u64 a0_4, .int .u64 a0_5, .int .i64 a0_6, .int .i64 a0_7, .int .i64 a0_8]) (t := 25) ?hr ?_; (case hd => rfl); (case hg => rfl); (case hr => first | (go_simp; done) | (go_simp; rfl)); intro gb233 hg w8 hbox hb; have n0_ := Aside0.mk (below_step (by repeat (first | (with_reducible first | exact HB.out | apply below_alloc | apply pw_below_drewN | apply below_drew1) | exact HB.out)) hb); have n1_ := Aside0.mk (hbox); have n2_ := Aside0.mk ((by rw [hg]; exact (below_size (by repeat (first | (with_reducible first | exact HB.out | apply below_alloc | apply pw_below_drewN | apply below_drew1) | exact HB.out))) : w.heap.size ≤ gb233)); have n3_ := Aside0.mk ((by rw [hg]; exact (below_size (by repeat (first | (with_reducible first | exact HB.out | apply below_alloc | apply pw_below_drewN | apply below_drew1) | exact HB.out))) : w.heap.size ≤ gb233)); clear HB; have HB := n0_; have BK233 := n1_; have GW233 := n2_; have GE233 := n3_; clear n0_ n1_ n2_ n3_; clear hb hbox hg) | ((with_reducible refine gate_callee (f := 9) rfl ?_); refine goesL_ (some 23) rfl rfl Try.func9 (by kernel_rfl) rfl #[] rfl (by (try simp only [List.map_toArray, List.map_cons, List.map_nil]); first | done | rfl | (simp only [List.length_drop, List.length_take]; rfl)) ?_; (with_reducible refine (pelicanlaw10_awake.calls k  t234 _ A6.out).mono ?_); rintro e w9 ⟨rfl, hb⟩; refine ⟨_, rfl, ?_⟩; have n0_ := Aside0.mk (blk_below (g := gb233) (o := .cells #[.int .i64 a0_0, .int .i64 a0_1, .int .i64 a0_2, .int .i64 a0_3, .int .u64 a0_4, .int .u64 a0_5, .int .i64 a0_6, .int .i64 a0_7, .int .i64 a0_8] 25 (0, 0)) (by (with_reducible repeat (first | refine blk_drewN ?_ _ | refine blk_drew ?_ | refine blk_alloc ?_ _)); exact BK233.out) hb); have n1_ := Aside0.mk (below_step (by repeat (first | (with_reducible first | exact HB.out | apply below_alloc | apply pw_below_drewN | apply below_drew1 | refine below_set ?_ GE233.out) | exact HB.out)) hb); clear BK233; clear HB; have BK233 := n0_; have HB := n1_; clear n0_ n1_; (try clear hb); (try clear hb2); (try clear hk); (try clear hi)))
 (try simp only [Act.put, List.setIfInBounds_toArray, List.set_cons_zero, List.set_cons_succ])
 go_cut [40] (fun v40 wc => ∃ (kq : Nat) (x40_6 : Bool), v40 = .bool x40_6 ∧ Aside0 (pelicanlaw10_EntryTells.j0 kq l1 l2 l3 a4 t234 x40_6 a0_0 a0_1 a0_2 a0_3 a0_4 a0_5 a0_6 a0_7 a0_8 = some r) ∧ Aside0 (kq ≤ k) ∧ Aside0 (wc.heap[gb233]? = some (.cells #[.int .i64 a0_0, .int .i64 a0_1, .int .i64 a0_2, .int .i64 a0_3, .int .u64 a0_4, .int .u64 a0_5, .int .i64 a0_6, .int .i64 a0_7, .int .i64 a0_8] 25 (0, 0))) ∧ Aside0 (Below w.heap.size w wc))
 case first =>
  have H := HC7.out
  clear HC7
  by_cases c10 : t234 = true
  ·subst c10
   have H1 : (if (l1.length : Int) > 100 then (pelicanlaw10_EntryTells.j0 k l1 l2 l3 a4 true true a0_0 a0_1 a0_2 a0_3 a0_4 a0_5 a0_6 a0_7 a0_8) else (if (l2.length : Int) > 300 then (pelicanlaw10_EntryTells.j0 k l1 l2 l3 a4 true true a0_0 a0_1 a0_2 a0_3 a0_4 a0_5 a0_6 a0_7 a0_8) else (pelicanlaw10_EntryTells.j0 k l1 l2 l3 a4 true (decide ((l3.length : Int) > 300)) a0_0 a0_1 a0_2 a0_3 a0_4 a0_5 a0_6 a0_7 a0_8))) = some r := by rw [if_pos rfl] at H; exact H
   clear H
   have H := H1
   clear H1
   by_cases c11 : (l1.length : Int) > 100
   ·rw [if_pos c11] at H
    have c11b0 : decide (100 < (l1.length : Int)) = true := decide_eq_true c11
    have c11b1 : decide (100 < l1.length) = true := decide_eq_true (by omega)
    clear c11
    (first | rw [c11b0] | (simp only [i64_w, i32_w]; rw [c11b0]) | skip)
    have H' := Aside0.mk H
    clear H
    go_wp2
    go_meet
    case rel => exact ⟨_, (true), (by first | rfl | (simp; done) | (simp [*]; done)), H', ⟨by first | omega | exact Nat.le_refl _⟩, ⟨by (with_reducible repeat (first | refine blk_drewN ?_ _ | refine blk_drew ?_ | refine blk_alloc ?_ _)); exact BK233.out⟩, ⟨by repeat (first | (with_reducible first | exact HB.out | apply below_alloc | apply pw_below_drewN | apply below_drew1 | refine below_set ?_ GE233.out) | exact HB.out)⟩⟩
   ·rw [if_neg c11] at H
    have c11b0 : decide (100 < (l1.length : Int)) = false := decide_eq_false c11
    have c11b1 : decide (100 < l1.length) = false := decide_eq_false (by omega)
    clear c11
    (first | rw [c11b0] | (simp only [i64_w, i32_w]; rw [c11b0]) | skip)
    by_cases c12 : (l2.length : Int) > 300
    ·rw [if_pos c12] at H
     have c12b0 : decide (300 < (l2.length : Int)) = true := decide_eq_true c12
     have c12b1 : decide (300 < l2.length) = true := decide_eq_true (by omega)
     clear c12
     have H' := Aside0.mk H
     clear H
     go_wp2
     go_meet
     case rel => exact ⟨_, (true), (by first | rfl | (simp; done) | (simp [*]; done)), H', ⟨by first | omega | exact Nat.le_refl _⟩, ⟨by (with_reducible repeat (first | refine blk_drewN ?_ _ | refine blk_drew ?_ | refine blk_alloc ?_ _)); exact BK233.out⟩, ⟨by repeat (first | (with_reducible first | exact HB.out | apply below_alloc | apply pw_below_drewN | apply below_drew1 | refine below_set ?_ GE233.out) | exact HB.out)⟩⟩
    ·rw [if_neg c12] at H
     have c12b0 : decide (300 < (l2.length : Int)) = false := decide_eq_false c12
     have c12b1 : decide (300 < l2.length) = false := decide_eq_false (by omega)
     clear c12
     have H' := Aside0.mk H
     clear H
     go_wp2
     go_meet
     case rel => exact ⟨_, (decide ((l3.length : Int) > 300)), (by first | rfl | (simp; done) | (simp [*]; done)), H', ⟨by first | omega | exact Nat.le_refl _⟩, ⟨by (with_reducible repeat (first | refine blk_drewN ?_ _ | refine blk_drew ?_ | refine blk_alloc ?_ _)); exact BK233.out⟩, ⟨by repeat (first | (with_reducible first | exact HB.out | apply below_alloc | apply pw_below_drewN | apply below_drew1 | refine below_set ?_ GE233.out) | exact HB.out)⟩⟩
  ·replace c10 := Bool.eq_false_iff.mpr c10
   subst c10
   have H1 : (pelicanlaw10_EntryTells.j0 k l1 l2 l3 a4 false true a0_0 a0_1 a0_2 a0_3 a0_4 a0_5 a0_6 a0_7 a0_8) = some r := by rw [if_neg (show ¬ (false = true) by decide)] at H; exact H
   clear H
   have H := H1
   clear H1
   have H' := Aside0.mk H
   clear H
   go_wp2
   go_meet
   case rel => exact ⟨_, (true), (by first | rfl | (simp; done) | (simp [*]; done)), H', ⟨by first | omega | exact Nat.le_refl _⟩, ⟨by (with_reducible repeat (first | refine blk_drewN ?_ _ | refine blk_drew ?_ | refine blk_alloc ?_ _)); exact BK233.out⟩, ⟨by repeat (first | (with_reducible first | exact HB.out | apply below_alloc | apply pw_below_drewN | apply below_drew1 | refine below_set ?_ GE233.out) | exact HB.out)⟩⟩
 case rest =>
  clear HC7
  try clear c1
  try clear c2
  try clear p2
  try clear c3
  try clear c9
  try clear c10
  try clear c11
  try clear c11b0
  try clear c11b1
  try clear c12
  try clear c12b0
  try clear c12b1
  obtain ⟨kq, x40_6, rfl, HA, HJ6, BK233, HB⟩ := hcut
  cases kq with
  | zero => exact absurd HA.out (by simp [pelicanlaw10_EntryTells.j0])
  | succ kj6 =>
   have H := HA.out
   clear HA
   simp only [pelicanlaw10_EntryTells.j0] at H
   by_cases c13 : x40_6 = true
   ·subst c13
    have H1 : (some t234) = some r := by rw [if_pos rfl] at H; exact H
    clear H
    have H := H1
    clear H1
    obtain rfl := Option.some.inj H
    go_wp2
    go_ret
    exact ⟨by first | rfl | (simp [errW_none, errW_some] <;> rfl) | (simp [*, errW_none, errW_some] <;> rfl), by repeat (first | (with_reducible first | exact HB.out | apply below_alloc | apply pw_below_drewN | apply below_drew1 | refine below_set ?_ GE233.out) | exact HB.out)⟩
   ·replace c13 := Bool.eq_false_iff.mpr c13
    subst c13
    have H1 : ((entry_Put.f kj6 a0_0 a0_1 a0_2 a0_3 a0_4 a0_5 a0_6 a0_7 a0_8).bind fun bt235 => ((pelicanref10_Put.f kj6 a0_0 a0_1 a0_2 a0_3 a0_4 a0_5 a0_6 a0_7 a0_8).bind fun bt239 => ((entry_Get.f kj6 l1).bind fun bt243 => ((pelicanref10_Get.f kj6 l1).bind fun bt254 => ((pelicanref10_May.f a0_0 a0_1 a0_2 a0_3 a0_4 a0_5 a0_6 a0_7 a0_8).bind fun t265 => ((pelicanref10_Same.f kj6 l2 l3).bind fun t266 => ((entry_Of.f l2 a4).bind fun t267 => ((pelicanref10_Of.f kj6 l2 a4).bind fun t270 => ((pelicanref10_Same.f kj6 t267 t270).bind fun t273 => (if (strOfNums bt235.1).toList = (strOfNums bt239.1).toList then (if (bt235.2 == bt239.2) = true then (if (bt243.1 == bt254.1 && (bt243.2.1 == bt254.2.1 && (bt243.2.2.1 == bt254.2.2.1 && (bt243.2.2.2.1 == bt254.2.2.2.1 && (bt243.2.2.2.2.1 == bt254.2.2.2.2.1 && (bt243.2.2.2.2.2.1 == bt254.2.2.2.2.2.1 && (bt243.2.2.2.2.2.2.1 == bt254.2.2.2.2.2.2.1 && (bt243.2.2.2.2.2.2.2.1 == bt254.2.2.2.2.2.2.2.1 && (bt243.2.2.2.2.2.2.2.2.1 == bt254.2.2.2.2.2.2.2.2.1))))))))) = true then (if (bt243.2.2.2.2.2.2.2.2.2 == bt254.2.2.2.2.2.2.2.2.2) = true then ((entry_May.f a0_0 a0_1 a0_2 a0_3 a0_4 a0_5 a0_6 a0_7 a0_8).bind fun t274 => (if (t274 == t265) = true then ((entry_Same.f kj6 l2 l3).bind fun t275 => (if (t275 == t266) = true then (if t273 = true then ((entry_Epoch.f l2).bind fun t276 => ((pelicanref10_Epoch.f kj6 l2).bind fun t277 => (some (t276 == t277)))) else (some false)) else (some false))) else (some false))) else (some false)) else (some false)) else (some false)) else (some false))))))))))) = some r := by rw [if_neg (show ¬ (false = true) by decide)] at H; exact H
    clear H
    have H := H1
    clear H1
    replace H := Option.bind_eq_some_iff.mp H
    obtain ⟨⟨t235, t238⟩, A140, H⟩ := H
    replace H : ((pelicanref10_Put.f kj6 a0_0 a0_1 a0_2 a0_3 a0_4 a0_5 a0_6 a0_7 a0_8).bind fun bt239 => ((entry_Get.f kj6 l1).bind fun bt243 => ((pelicanref10_Get.f kj6 l1).bind fun bt254 => ((pelicanref10_May.f a0_0 a0_1 a0_2 a0_3 a0_4 a0_5 a0_6 a0_7 a0_8).bind fun t265 => ((pelicanref10_Same.f kj6 l2 l3).bind fun t266 => ((entry_Of.f l2 a4).bind fun t267 => ((pelicanref10_Of.f kj6 l2 a4).bind fun t270 => ((pelicanref10_Same.f kj6 t267 t270).bind fun t273 => (if (strOfNums t235).toList = (strOfNums bt239.1).toList then (if (t238 == bt239.2) = true then (if (bt243.1 == bt254.1 && (bt243.2.1 == bt254.2.1 && (bt243.2.2.1 == bt254.2.2.1 && (bt243.2.2.2.1 == bt254.2.2.2.1 && (bt243.2.2.2.2.1 == bt254.2.2.2.2.1 && (bt243.2.2.2.2.2.1 == bt254.2.2.2.2.2.1 && (bt243.2.2.2.2.2.2.1 == bt254.2.2.2.2.2.2.1 && (bt243.2.2.2.2.2.2.2.1 == bt254.2.2.2.2.2.2.2.1 && (bt243.2.2.2.2.2.2.2.2.1 == bt254.2.2.2.2.2.2.2.2.1))))))))) = true then (if (bt243.2.2.2.2.2.2.2.2.2 == bt254.2.2.2.2.2.2.2.2.2) = true then ((entry_May.f a0_0 a0_1 a0_2 a0_3 a0_4 a0_5 a0_6 a0_7 a0_8).bind fun t274 => (if (t274 == t265) = true then ((entry_Same.f kj6 l2 l3).bind fun t275 => (if (t275 == t266) = true then (if t273 = true then ((entry_Epoch.f l2).bind fun t276 => ((pelicanref10_Epoch.f kj6 l2).bind fun t277 => (some (t276 == t277)))) else (some false)) else (some false))) else (some false))) else (some false)) else (some false)) else (some false)) else (some false)))))))))) = some r := H
    have A14 := Aside0.mk A140
    clear A140
    replace H := Option.bind_eq_some_iff.mp H
    obtain ⟨⟨t239, t242⟩, A150, H⟩ := H
    replace H : ((entry_Get.f kj6 l1).bind fun bt243 => ((pelicanref10_Get.f kj6 l1).bind fun bt254 => ((pelicanref10_May.f a0_0 a0_1 a0_2 a0_3 a0_4 a0_5 a0_6 a0_7 a0_8).bind fun t265 => ((pelicanref10_Same.f kj6 l2 l3).bind fun t266 => ((entry_Of.f l2 a4).bind fun t267 => ((pelicanref10_Of.f kj6 l2 a4).bind fun t270 => ((pelicanref10_Same.f kj6 t267 t270).bind fun t273 => (if (strOfNums t235).toList = (strOfNums t239).toList then (if (t238 == t242) = true then (if (bt243.1 == bt254.1 && (bt243.2.1 == bt254.2.1 && (bt243.2.2.1 == bt254.2.2.1 && (bt243.2.2.2.1 == bt254.2.2.2.1 && (bt243.2.2.2.2.1 == bt254.2.2.2.2.1 && (bt243.2.2.2.2.2.1 == bt254.2.2.2.2.2.1 && (bt243.2.2.2.2.2.2.1 == bt254.2.2.2.2.2.2.1 && (bt243.2.2.2.2.2.2.2.1 == bt254.2.2.2.2.2.2.2.1 && (bt243.2.2.2.2.2.2.2.2.1 == bt254.2.2.2.2.2.2.2.2.1))))))))) = true then (if (bt243.2.2.2.2.2.2.2.2.2 == bt254.2.2.2.2.2.2.2.2.2) = true then ((entry_May.f a0_0 a0_1 a0_2 a0_3 a0_4 a0_5 a0_6 a0_7 a0_8).bind fun t274 => (if (t274 == t265) = true then ((entry_Same.f kj6 l2 l3).bind fun t275 => (if (t275 == t266) = true then (if t273 = true then ((entry_Epoch.f l2).bind fun t276 => ((pelicanref10_Epoch.f kj6 l2).bind fun t277 => (some (t276 == t277)))) else (some false)) else (some false))) else (some false))) else (some false)) else (some false)) else (some false)) else (some false))))))))) = some r := H
    have A15 := Aside0.mk A150
    clear A150
    replace H := Option.bind_eq_some_iff.mp H
    obtain ⟨⟨t243, t244, t245, t246, t247, t248, t249, t250, t251, t252⟩, A160, H⟩ := H
    replace H : ((pelicanref10_Get.f kj6 l1).bind fun bt254 => ((pelicanref10_May.f a0_0 a0_1 a0_2 a0_3 a0_4 a0_5 a0_6 a0_7 a0_8).bind fun t265 => ((pelicanref10_Same.f kj6 l2 l3).bind fun t266 => ((entry_Of.f l2 a4).bind fun t267 => ((pelicanref10_Of.f kj6 l2 a4).bind fun t270 => ((pelicanref10_Same.f kj6 t267 t270).bind fun t273 => (if (strOfNums t235).toList = (strOfNums t239).toList then (if (t238 == t242) = true then (if (t243 == bt254.1 && (t244 == bt254.2.1 && (t245 == bt254.2.2.1 && (t246 == bt254.2.2.2.1 && (t247 == bt254.2.2.2.2.1 && (t248 == bt254.2.2.2.2.2.1 && (t249 == bt254.2.2.2.2.2.2.1 && (t250 == bt254.2.2.2.2.2.2.2.1 && (t251 == bt254.2.2.2.2.2.2.2.2.1))))))))) = true then (if (t252 == bt254.2.2.2.2.2.2.2.2.2) = true then ((entry_May.f a0_0 a0_1 a0_2 a0_3 a0_4 a0_5 a0_6 a0_7 a0_8).bind fun t274 => (if (t274 == t265) = true then ((entry_Same.f kj6 l2 l3).bind fun t275 => (if (t275 == t266) = true then (if t273 = true then ((entry_Epoch.f l2).bind fun t276 => ((pelicanref10_Epoch.f kj6 l2).bind fun t277 => (some (t276 == t277)))) else (some false)) else (some false))) else (some false))) else (some false)) else (some false)) else (some false)) else (some false)))))))) = some r := H
    have A16 := Aside0.mk A160
    clear A160
    replace H := Option.bind_eq_some_iff.mp H
    obtain ⟨⟨t254, t255, t256, t257, t258, t259, t260, t261, t262, t263⟩, A170, H⟩ := H
    replace H : ((pelicanref10_May.f a0_0 a0_1 a0_2 a0_3 a0_4 a0_5 a0_6 a0_7 a0_8).bind fun t265 => ((pelicanref10_Same.f kj6 l2 l3).bind fun t266 => ((entry_Of.f l2 a4).bind fun t267 => ((pelicanref10_Of.f kj6 l2 a4).bind fun t270 => ((pelicanref10_Same.f kj6 t267 t270).bind fun t273 => (if (strOfNums t235).toList = (strOfNums t239).toList then (if (t238 == t242) = true then (if (t243 == t254 && (t244 == t255 && (t245 == t256 && (t246 == t257 && (t247 == t258 && (t248 == t259 && (t249 == t260 && (t250 == t261 && (t251 == t262))))))))) = true then (if (t252 == t263) = true then ((entry_May.f a0_0 a0_1 a0_2 a0_3 a0_4 a0_5 a0_6 a0_7 a0_8).bind fun t274 => (if (t274 == t265) = true then ((entry_Same.f kj6 l2 l3).bind fun t275 => (if (t275 == t266) = true then (if t273 = true then ((entry_Epoch.f l2).bind fun t276 => ((pelicanref10_Epoch.f kj6 l2).bind fun t277 => (some (t276 == t277)))) else (some false)) else (some false))) else (some false))) else (some false)) else (some false)) else (some false)) else (some false))))))) = some r := H
    have A17 := Aside0.mk A170
    clear A170
    replace H := Option.bind_eq_some_iff.mp H
    obtain ⟨t265, A180, H⟩ := H
    replace H : ((pelicanref10_Same.f kj6 l2 l3).bind fun t266 => ((entry_Of.f l2 a4).bind fun t267 => ((pelicanref10_Of.f kj6 l2 a4).bind fun t270 => ((pelicanref10_Same.f kj6 t267 t270).bind fun t273 => (if (strOfNums t235).toList = (strOfNums t239).toList then (if (t238 == t242) = true then (if (t243 == t254 && (t244 == t255 && (t245 == t256 && (t246 == t257 && (t247 == t258 && (t248 == t259 && (t249 == t260 && (t250 == t261 && (t251 == t262))))))))) = true then (if (t252 == t263) = true then ((entry_May.f a0_0 a0_1 a0_2 a0_3 a0_4 a0_5 a0_6 a0_7 a0_8).bind fun t274 => (if (t274 == t265) = true then ((entry_Same.f kj6 l2 l3).bind fun t275 => (if (t275 == t266) = true then (if t273 = true then ((entry_Epoch.f l2).bind fun t276 => ((pelicanref10_Epoch.f kj6 l2).bind fun t277 => (some (t276 == t277)))) else (some false)) else (some false))) else (some false))) else (some false)) else (some false)) else (some false)) else (some false)))))) = some r := H
    have A18 := Aside0.mk A180
    clear A180
    replace H := Option.bind_eq_some_iff.mp H
    obtain ⟨t266, A190, H⟩ := H
    replace H : ((entry_Of.f l2 a4).bind fun t267 => ((pelicanref10_Of.f kj6 l2 a4).bind fun t270 => ((pelicanref10_Same.f kj6 t267 t270).bind fun t273 => (if (strOfNums t235).toList = (strOfNums t239).toList then (if (t238 == t242) = true then (if (t243 == t254 && (t244 == t255 && (t245 == t256 && (t246 == t257 && (t247 == t258 && (t248 == t259 && (t249 == t260 && (t250 == t261 && (t251 == t262))))))))) = true then (if (t252 == t263) = true then ((entry_May.f a0_0 a0_1 a0_2 a0_3 a0_4 a0_5 a0_6 a0_7 a0_8).bind fun t274 => (if (t274 == t265) = true then ((entry_Same.f kj6 l2 l3).bind fun t275 => (if (t275 == t266) = true then (if t273 = true then ((entry_Epoch.f l2).bind fun t276 => ((pelicanref10_Epoch.f kj6 l2).bind fun t277 => (some (t276 == t277)))) else (some false)) else (some false))) else (some false))) else (some false)) else (some false)) else (some false)) else (some false))))) = some r := H
    have A19 := Aside0.mk A190
    clear A190
    replace H := Option.bind_eq_some_iff.mp H
    obtain ⟨t267, A200, H⟩ := H
    replace H : ((pelicanref10_Of.f kj6 l2 a4).bind fun t270 => ((pelicanref10_Same.f kj6 t267 t270).bind fun t273 => (if (strOfNums t235).toList = (strOfNums t239).toList then (if (t238 == t242) = true then (if (t243 == t254 && (t244 == t255 && (t245 == t256 && (t246 == t257 && (t247 == t258 && (t248 == t259 && (t249 == t260 && (t250 == t261 && (t251 == t262))))))))) = true then (if (t252 == t263) = true then ((entry_May.f a0_0 a0_1 a0_2 a0_3 a0_4 a0_5 a0_6 a0_7 a0_8).bind fun t274 => (if (t274 == t265) = true then ((entry_Same.f kj6 l2 l3).bind fun t275 => (if (t275 == t266) = true then (if t273 = true then ((entry_Epoch.f l2).bind fun t276 => ((pelicanref10_Epoch.f kj6 l2).bind fun t277 => (some (t276 == t277)))) else (some false)) else (some false))) else (some false))) else (some false)) else (some false)) else (some false)) else (some false)))) = some r := H
    have A20 := Aside0.mk A200
    clear A200
    replace H := Option.bind_eq_some_iff.mp H
    obtain ⟨t270, A210, H⟩ := H
    replace H : ((pelicanref10_Same.f kj6 t267 t270).bind fun t273 => (if (strOfNums t235).toList = (strOfNums t239).toList then (if (t238 == t242) = true then (if (t243 == t254 && (t244 == t255 && (t245 == t256 && (t246 == t257 && (t247 == t258 && (t248 == t259 && (t249 == t260 && (t250 == t261 && (t251 == t262))))))))) = true then (if (t252 == t263) = true then ((entry_May.f a0_0 a0_1 a0_2 a0_3 a0_4 a0_5 a0_6 a0_7 a0_8).bind fun t274 => (if (t274 == t265) = true then ((entry_Same.f kj6 l2 l3).bind fun t275 => (if (t275 == t266) = true then (if t273 = true then ((entry_Epoch.f l2).bind fun t276 => ((pelicanref10_Epoch.f kj6 l2).bind fun t277 => (some (t276 == t277)))) else (some false)) else (some false))) else (some false))) else (some false)) else (some false)) else (some false)) else (some false))) = some r := H
    have A21 := Aside0.mk A210
    clear A210
    replace H := Option.bind_eq_some_iff.mp H
    obtain ⟨t273, A220, H⟩ := H
    replace H : (if (strOfNums t235).toList = (strOfNums t239).toList then (if (t238 == t242) = true then (if (t243 == t254 && (t244 == t255 && (t245 == t256 && (t246 == t257 && (t247 == t258 && (t248 == t259 && (t249 == t260 && (t250 == t261 && (t251 == t262))))))))) = true then (if (t252 == t263) = true then ((entry_May.f a0_0 a0_1 a0_2 a0_3 a0_4 a0_5 a0_6 a0_7 a0_8).bind fun t274 => (if (t274 == t265) = true then ((entry_Same.f kj6 l2 l3).bind fun t275 => (if (t275 == t266) = true then (if t273 = true then ((entry_Epoch.f l2).bind fun t276 => ((pelicanref10_Epoch.f kj6 l2).bind fun t277 => (some (t276 == t277)))) else (some false)) else (some false))) else (some false))) else (some false)) else (some false)) else (some false)) else (some false)) = some r := H
    have A22 := Aside0.mk A220
    clear A220
    by_cases c23 : (strOfNums t235).toList = (strOfNums t239).toList
    ·rw [if_pos c23] at H
     have c23b0 : ((strOfNums t235).toList == (strOfNums t239).toList) = true := beq_iff_eq.mpr c23
     have c23b1 : ((strOfNums t235).toList != (strOfNums t239).toList) = false := bne_eq_false_iff_eq.mpr c23
     clear c23
     by_cases c24 : (t238 == t242) = true
     ·rw [if_pos c24] at H
      have c24b0 : (t238 == t242) = true := c24
      (try (have c24b1 : decide (t238 = t242) = true := by simpa using c24))
      (try (have c24b2 : (t238 == t242) = true := by simpa using c24))
      clear c24
      by_cases c25 : (t243 == t254 && (t244 == t255 && (t245 == t256 && (t246 == t257 && (t247 == t258 && (t248 == t259 && (t249 == t260 && (t250 == t261 && (t251 == t262))))))))) = true
      ·rw [if_pos c25] at H
       have c25b0 : (t243 == t254 && (t244 == t255 && (t245 == t256 && (t246 == t257 && (t247 == t258 && (t248 == t259 && (t249 == t260 && (t250 == t261 && (t251 == t262))))))))) = true := c25
       (try (have c25b1 : decide (t243 = t254 && (t244 == t255 && (t245 == t256 && (t246 == t257 && (t247 == t258 && (t248 == t259 && (t249 == t260 && (t250 == t261 && (t251 == t262))))))))) = true := by simpa using c25))
       (try (have c25b2 : (t243 == t254 && (t244 == t255 && (t245 == t256 && (t246 == t257 && (t247 == t258 && (t248 == t259 && (t249 == t260 && (t250 == t261 && (t251 == t262))))))))) = true := by simpa using c25))
       clear c25
       by_cases c26 : (t252 == t263) = true
       ·rw [if_pos c26] at H
        have c26b0 : (t252 == t263) = true := c26
        (try (have c26b1 : decide (t252 = t263) = true := by simpa using c26))
        (try (have c26b2 : (t252 == t263) = true := by simpa using c26))
        clear c26
        replace H := Option.bind_eq_some_iff.mp H
        obtain ⟨t274, A270, H⟩ := H
        replace H : (if (t274 == t265) = true then ((entry_Same.f kj6 l2 l3).bind fun t275 => (if (t275 == t266) = true then (if t273 = true then ((entry_Epoch.f l2).bind fun t276 => ((pelicanref10_Epoch.f kj6 l2).bind fun t277 => (some (t276 == t277)))) else (some false)) else (some false))) else (some false)) = some r := H
        have A27 := Aside0.mk A270
        clear A270
        by_cases c28 : (t274 == t265) = true
        ·rw [if_pos c28] at H
         have c28b0 : (t274 == t265) = true := c28
         (try (have c28b1 : decide (t274 = t265) = true := by simpa using c28))
         (try (have c28b2 : (t274 == t265) = true := by simpa using c28))
         clear c28
         replace H := Option.bind_eq_some_iff.mp H
         obtain ⟨t275, A290, H⟩ := H
         replace H : (if (t275 == t266) = true then (if t273 = true then ((entry_Epoch.f l2).bind fun t276 => ((pelicanref10_Epoch.f kj6 l2).bind fun t277 => (some (t276 == t277)))) else (some false)) else (some false)) = some r := H
         have A29 := Aside0.mk A290
         clear A290
         by_cases c30 : (t275 == t266) = true
         ·rw [if_pos c30] at H
          have c30b0 : (t275 == t266) = true := c30
          (try (have c30b1 : decide (t275 = t266) = true := by simpa using c30))
          (try (have c30b2 : (t275 == t266) = true := by simpa using c30))
          clear c30
          by_cases c31 : t273 = true
          ·subst c31
           have H1 : ((entry_Epoch.f l2).bind fun t276 => ((pelicanref10_Epoch.f kj6 l2).bind fun t277 => (some (t276 == t277)))) = some r := by rw [if_pos rfl] at H; exact H
           clear H
           have H := H1
           clear H1
           replace H := Option.bind_eq_some_iff.mp H
           obtain ⟨t276, A320, H⟩ := H
           replace H : ((pelicanref10_Epoch.f kj6 l2).bind fun t277 => (some (t276 == t277))) = some r := H
           have A32 := Aside0.mk A320
           clear A320
           replace H := Option.bind_eq_some_iff.mp H
           obtain ⟨t277, A330, H⟩ := H
           replace H : (some (t276 == t277)) = some r := H
           have A33 := Aside0.mk A330
           clear A330
           obtain rfl := Option.some.inj H
           have hcz34_0 : wc.cell? ⟨gb233, 0, none⟩ = some (.int .i64 a0_0) := (blk_cell BK233.out 0).trans rfl
           have hcz34_1 : wc.cell? ⟨gb233, 1, none⟩ = some (.int .i64 a0_1) := (blk_cell BK233.out 1).trans rfl
           have hcz34_2 : wc.cell? ⟨gb233, 2, none⟩ = some (.int .i64 a0_2) := (blk_cell BK233.out 2).trans rfl
           have hcz34_3 : wc.cell? ⟨gb233, 3, none⟩ = some (.int .i64 a0_3) := (blk_cell BK233.out 3).trans rfl
           have hcz34_4 : wc.cell? ⟨gb233, 4, none⟩ = some (.int .u64 a0_4) := (blk_cell BK233.out 4).trans rfl
           have hcz34_5 : wc.cell? ⟨gb233, 5, none⟩ = some (.int .u64 a0_5) := (blk_cell BK233.out 5).trans rfl
           have hcz34_6 : wc.cell? ⟨gb233, 6, none⟩ = some (.int .i64 a0_6) := (blk_cell BK233.out 6).trans rfl
           have hcz34_7 : wc.cell? ⟨gb233, 7, none⟩ = some (.int .i64 a0_7) := (blk_cell BK233.out 7).trans rfl
           have hcz34_8 : wc.cell? ⟨gb233, 8, none⟩ = some (.int .i64 a0_8) := (blk_cell BK233.out 8).trans rfl
           have hfz34_0 := blk_frozen BK233.out 0
           have hfz34_1 := blk_frozen BK233.out 1
           have hfz34_2 := blk_frozen BK233.out 2
           have hfz34_3 := blk_frozen BK233.out 3
           have hfz34_4 := blk_frozen BK233.out 4
           have hfz34_5 := blk_frozen BK233.out 5
           have hfz34_6 := blk_frozen BK233.out 6
           have hfz34_7 := blk_frozen BK233.out 7
           have hfz34_8 := blk_frozen BK233.out 8
           go_wp2_with (first | ((with_reducible refine gate_callee (f := 10) rfl ?_); refine goesL_ (some 44) rfl rfl Try.func10 (by kernel_rfl) rfl #[.agg #[.int .i64 a0_0, .int .i64 a0_1, .int .i64 a0_2, .int .i64 a0_3, .int .u64 a0_4, .int .u64 a0_5, .int .i64 a0_6, .int .i64 a0_7, .int .i64 a0_8]] rfl (by (try simp only [List.map_toArray, List.map_cons, List.map_nil]); first | done | rfl | (simp only [List.length_drop, List.length_take]; rfl)) ?_; (with_reducible refine (entry_Put.calls kj6 a0_0 a0_1 a0_2 a0_3 a0_4 a0_5 a0_6 a0_7 a0_8 t235 t238 _ A14.out).mono ?_); rintro e w35 ⟨v236, rfl, ho0, hb⟩; refine ⟨_, rfl, ?_⟩; have n0_ := Aside0.mk (Kd.R_lower ho0 (below_size (by repeat (first | (with_reducible first | exact HB.out | apply below_alloc | apply pw_below_drewN | apply below_drew1 | refine below_set ?_ GE233.out) | exact HB.out)))); have n1_ := Aside0.mk (blk_below (g := gb233) (o := .cells #[.int .i64 a0_0, .int .i64 a0_1, .int .i64 a0_2, .int .i64 a0_3, .int .u64 a0_4, .int .u64 a0_5, .int .i64 a0_6, .int .i64 a0_7, .int .i64 a0_8] 25 (0, 0)) (by (with_reducible repeat (first | refine blk_drewN ?_ _ | refine blk_drew ?_ | refine blk_alloc ?_ _)); exact BK233.out) hb); have n2_ := Aside0.mk (below_step (by repeat (first | (with_reducible first | exact HB.out | apply below_alloc | apply pw_below_drewN | apply below_drew1 | refine below_set ?_ GE233.out) | exact HB.out)) hb); clear BK233; clear HB; have HO237 := n0_; have BK233 := n1_; have HB := n2_; clear n0_ n1_ n2_; (try clear hb); (try clear hb2); (try clear hk); (try clear hi); (try clear ho0); have hcz36_0 : w35.cell? ⟨gb233, 0, none⟩ = some (.int .i64 a0_0) := (blk_cell BK233.out 0).trans rfl; have hcz36_1 : w35.cell? ⟨gb233, 1, none⟩ = some (.int .i64 a0_1) := (blk_cell BK233.out 1).trans rfl; have hcz36_2 : w35.cell? ⟨gb233, 2, none⟩ = some (.int .i64 a0_2) := (blk_cell BK233.out 2).trans rfl; have hcz36_3 : w35.cell? ⟨gb233, 3, none⟩ = some (.int .i64 a0_3) := (blk_cell BK233.out 3).trans rfl; have hcz36_4 : w35.cell? ⟨gb233, 4, none⟩ = some (.int .u64 a0_4) := (blk_cell BK233.out 4).trans rfl; have hcz36_5 : w35.cell? ⟨gb233, 5, none⟩ = some (.int .u64 a0_5) := (blk_cell BK233.out 5).trans rfl; have hcz36_6 : w35.cell? ⟨gb233, 6, none⟩ = some (.int .i64 a0_6) := (blk_cell BK233.out 6).trans rfl; have hcz36_7 : w35.cell? ⟨gb233, 7, none⟩ = some (.int .i64 a0_7) := (blk_cell BK233.out 7).trans rfl; have hcz36_8 : w35.cell? ⟨gb233, 8, none⟩ = some (.int .i64 a0_8) := (blk_cell BK233.out 8).trans rfl; have hfz36_0 := blk_frozen BK233.out 0; have hfz36_1 := blk_frozen BK233.out 1; have hfz36_2 := blk_frozen BK233.out 2; have hfz36_3 := blk_frozen BK233.out 3; have hfz36_4 := blk_frozen BK233.out 4; have hfz36_5 := blk_frozen BK233.out 5; have hfz36_6 := blk_frozen BK233.out 6; have hfz36_7 := blk_frozen BK233.out 7; have hfz36_8 := blk_frozen BK233.out 8) | ((with_reducible refine gate_callee (f := 11) rfl ?_); refine goesL_ (some 49) rfl rfl Try.func11 (by kernel_rfl) rfl #[.agg #[.int .i64 a0_0, .int .i64 a0_1, .int .i64 a0_2, .int .i64 a0_3, .int .u64 a0_4, .int .u64 a0_5, .int .i64 a0_6, .int .i64 a0_7, .int .i64 a0_8]] rfl (by (try simp only [List.map_toArray, List.map_cons, List.map_nil]); first | done | rfl | (simp only [List.length_drop, List.length_take]; rfl)) ?_; (with_reducible refine (pelicanref10_Put.calls kj6 a0_0 a0_1 a0_2 a0_3 a0_4 a0_5 a0_6 a0_7 a0_8 t239 t242 _ A15.out).mono ?_); rintro e w37 ⟨v240, rfl, ho0, hb⟩; refine ⟨_, rfl, ?_⟩; have n0_ := Aside0.mk (Kd.R_elder' (by (with_reducible repeat (first | apply Kd.R_alloc | apply Kd.R_drewN | apply Kd.R_drew)); exact HO237.out) (Kd.R_base ho0) hb); have n1_ := Aside0.mk (Kd.R_lower (Kd.R_new' ho0 (Kd.R_lt (by (with_reducible repeat (first | apply Kd.R_alloc | apply Kd.R_drewN | apply Kd.R_drew)); exact HO237.out))) (below_size (by repeat (first | (with_reducible first | exact HB.out | apply below_alloc | apply pw_below_drewN | apply below_drew1 | refine below_set ?_ GE233.out) | exact HB.out)))); have n2_ := Aside0.mk (blk_below (g := gb233) (o := .cells #[.int .i64 a0_0, .int .i64 a0_1, .int .i64 a0_2, .int .i64 a0_3, .int .u64 a0_4, .int .u64 a0_5, .int .i64 a0_6, .int .i64 a0_7, .int .i64 a0_8] 25 (0, 0)) (by (with_reducible repeat (first | refine blk_drewN ?_ _ | refine blk_drew ?_ | refine blk_alloc ?_ _)); exact BK233.out) hb); have n3_ := Aside0.mk (below_step (by repeat (first | (with_reducible first | exact HB.out | apply below_alloc | apply pw_below_drewN | apply below_drew1 | refine below_set ?_ GE233.out) | exact HB.out)) hb); clear HO237; clear BK233; clear HB; have HO237 := n0_; have HO241 := n1_; have BK233 := n2_; have HB := n3_; clear n0_ n1_ n2_ n3_; (try clear hb); (try clear hb2); (try clear hk); (try clear hi); (try clear ho0)) | ((with_reducible refine gate_callee (f := 12) rfl ?_); refine goesL_ (some 54) rfl rfl Try.func12 (by kernel_rfl) rfl #[.slice A1 l1.length c1] rfl (by (try simp only [List.map_toArray, List.map_cons, List.map_nil]); first | done | rfl | (simp only [List.length_drop, List.length_take]; rfl)) ?_; (with_reducible refine (entry_Get.calls kj6 _ _ l1 t243 t244 t245 t246 t247 t248 t249 t250 t251 t252 _ ?side1 ?side2 A16.out).mono ?_); (case side1 => repeat (first | exact (Kd.C_below HR1.out HB.out) | (with_reducible refine Kd.C_alloc ?_ _) | (with_reducible refine Kd.C_drewN ?_ _) | (with_reducible refine Kd.C_drew ?_))); (case side2 => exact HC1.out); rintro e w38 ⟨rfl, hb⟩; refine ⟨_, rfl, ?_⟩; have n0_ := Aside0.mk (Kd.R_below (by (with_reducible repeat (first | apply Kd.R_alloc | apply Kd.R_drewN | apply Kd.R_drew)); exact HO237.out) hb); have n1_ := Aside0.mk (Kd.R_below (by (with_reducible repeat (first | apply Kd.R_alloc | apply Kd.R_drewN | apply Kd.R_drew)); exact HO241.out) hb); have n2_ := Aside0.mk (blk_below (g := gb233) (o := .cells #[.int .i64 a0_0, .int .i64 a0_1, .int .i64 a0_2, .int .i64 a0_3, .int .u64 a0_4, .int .u64 a0_5, .int .i64 a0_6, .int .i64 a0_7, .int .i64 a0_8] 25 (0, 0)) (by (with_reducible repeat (first | refine blk_drewN ?_ _ | refine blk_drew ?_ | refine blk_alloc ?_ _)); exact BK233.out) hb); have n3_ := Aside0.mk (below_step (by repeat (first | (with_reducible first | exact HB.out | apply below_alloc | apply pw_below_drewN | apply below_drew1 | refine below_set ?_ GE233.out) | exact HB.out)) hb); clear HO237; clear HO241; clear BK233; clear HB; have HO237 := n0_; have HO241 := n1_; have BK233 := n2_; have HB := n3_; clear n0_ n1_ n2_ n3_; (try clear hb); (try clear hb2); (try clear hk); (try clear hi)) | ((with_reducible refine gate_dst (N := 16) rfl ?_); (try (refine gate_guard (by rfl) ?_; dsimp only)); refine box_event ?hg (N := 16) ?hd (cs := #[.int .i64 0, .int .i64 0, .int .i64 0, .int .i64 0, .int .u64 0, .int .u64 0, .int .i64 0, .int .i64 0, .int .i64 0]) (t := 25) ?hr ?_; (case hd => rfl); (case hg => rfl); (case hr => first | (go_simp; done) | (go_simp; rfl)); intro gb253 hg w39 hbox hb; have n0_ := Aside0.mk (Kd.R_below (by (with_reducible repeat (first | apply Kd.R_alloc | apply Kd.R_drewN | apply Kd.R_drew)); exact HO237.out) hb); have n1_ := Aside0.mk (Kd.R_below (by (with_reducible repeat (first | apply Kd.R_alloc | apply Kd.R_drewN | apply Kd.R_drew)); exact HO241.out) hb); have n2_ := Aside0.mk (blk_below (g := gb233) (o := .cells #[.int .i64 a0_0, .int .i64 a0_1, .int .i64 a0_2, .int .i64 a0_3, .int .u64 a0_4, .int .u64 a0_5, .int .i64 a0_6, .int .i64 a0_7, .int .i64 a0_8] 25 (0, 0)) (by (with_reducible repeat (first | refine blk_drewN ?_ _ | refine blk_drew ?_ | refine blk_alloc ?_ _)); exact BK233.out) hb); have n3_ := Aside0.mk (below_step (by repeat (first | (with_reducible first | exact HB.out | apply below_alloc | apply pw_below_drewN | apply below_drew1 | refine below_set ?_ GE233.out) | exact HB.out)) hb); have n4_ := Aside0.mk (hbox); have n5_ := Aside0.mk ((by rw [hg]; exact (below_size (by repeat (first | (with_reducible first | exact HB.out | apply below_alloc | apply pw_below_drewN | apply below_drew1 | refine below_set ?_ GE233.out) | exact HB.out))) : w.heap.size ≤ gb253)); have n6_ := Aside0.mk ((by rw [hg]; exact (below_size (by repeat (first | (with_reducible first | exact HB.out | apply below_alloc | apply pw_below_drewN | apply below_drew1 | refine below_set ?_ GE233.out) | exact HB.out))) : w.heap.size ≤ gb253)); have n7_ := Aside0.mk ((by rw [hg]; exact Nat.ne_of_lt (blk_lt (g := gb233) (o := .cells #[.int .i64 a0_0, .int .i64 a0_1, .int .i64 a0_2, .int .i64 a0_3, .int .u64 a0_4, .int .u64 a0_5, .int .i64 a0_6, .int .i64 a0_7, .int .i64 a0_8] 25 (0, 0)) (by (with_reducible repeat (first | refine blk_drewN ?_ _ | refine blk_drew ?_ | refine blk_alloc ?_ _)); exact BK233.out)) : gb233 ≠ gb253)); have n8_ := Aside0.mk ((by rw [hg]; exact Nat.ne_of_gt (blk_lt (g := gb233) (o := .cells #[.int .i64 a0_0, .int .i64 a0_1, .int .i64 a0_2, .int .i64 a0_3, .int .u64 a0_4, .int .u64 a0_5, .int .i64 a0_6, .int .i64 a0_7, .int .i64 a0_8] 25 (0, 0)) (by (with_reducible repeat (first | refine blk_drewN ?_ _ | refine blk_drew ?_ | refine blk_alloc ?_ _)); exact BK233.out)) : gb253 ≠ gb233)); clear HO237; clear HO241; clear BK233; clear HB; have HO237 := n0_; have HO241 := n1_; have BK233 := n2_; have HB := n3_; have BK253 := n4_; have GW253 := n5_; have GE253 := n6_; have NB233_253 := n7_; have NB253_233 := n8_; clear n0_ n1_ n2_ n3_ n4_ n5_ n6_ n7_ n8_; clear hb hbox hg; have hnb40 := NB253_233.out; have hnc40 := NB233_253.out; have hcz41_0 : w39.cell? ⟨gb253, 0, none⟩ = some (.int .i64 0) := (blk_cell BK253.out 0).trans rfl; have hcz41_1 : w39.cell? ⟨gb253, 1, none⟩ = some (.int .i64 0) := (blk_cell BK253.out 1).trans rfl; have hcz41_2 : w39.cell? ⟨gb253, 2, none⟩ = some (.int .i64 0) := (blk_cell BK253.out 2).trans rfl; have hcz41_3 : w39.cell? ⟨gb253, 3, none⟩ = some (.int .i64 0) := (blk_cell BK253.out 3).trans rfl; have hcz41_4 : w39.cell? ⟨gb253, 4, none⟩ = some (.int .u64 0) := (blk_cell BK253.out 4).trans rfl; have hcz41_5 : w39.cell? ⟨gb253, 5, none⟩ = some (.int .u64 0) := (blk_cell BK253.out 5).trans rfl; have hcz41_6 : w39.cell? ⟨gb253, 6, none⟩ = some (.int .i64 0) := (blk_cell BK253.out 6).trans rfl; have hcz41_7 : w39.cell? ⟨gb253, 7, none⟩ = some (.int .i64 0) := (blk_cell BK253.out 7).trans rfl; have hcz41_8 : w39.cell? ⟨gb253, 8, none⟩ = some (.int .i64 0) := (blk_cell BK253.out 8).trans rfl; have hfz41_0 := blk_frozen BK253.out 0; have hfz41_1 := blk_frozen BK253.out 1; have hfz41_2 := blk_frozen BK253.out 2; have hfz41_3 := blk_frozen BK253.out 3; have hfz41_4 := blk_frozen BK253.out 4; have hfz41_5 := blk_frozen BK253.out 5; have hfz41_6 := blk_frozen BK253.out 6; have hfz41_7 := blk_frozen BK253.out 7; have hfz41_8 := blk_frozen BK253.out 8) | ((with_reducible refine gate_callee (f := 13) rfl ?_); refine goesL_ (some 59) rfl rfl Try.func13 (by kernel_rfl) rfl #[.slice A1 l1.length c1] rfl (by (try simp only [List.map_toArray, List.map_cons, List.map_nil]); first | done | rfl | (simp only [List.length_drop, List.length_take]; rfl)) ?_; (with_reducible refine (pelicanref10_Get.calls kj6 _ _ l1 t254 t255 t256 t257 t258 t259 t260 t261 t262 t263 _ ?side1 ?side2 A17.out).mono ?_); (case side1 => exact Kd.C_below HR1.out (by repeat (first | (with_reducible first | exact HB.out | apply below_alloc | apply pw_below_drewN | apply below_drew1 | refine below_set ?_ GE233.out | refine below_set ?_ GE253.out) | exact HB.out))); (case side2 => exact HC1.out); rintro e w42 ⟨rfl, hb⟩; refine ⟨_, rfl, ?_⟩; have n0_ := Aside0.mk (Kd.R_below (by (with_reducible repeat (first | apply Kd.R_alloc | apply Kd.R_drewN | apply Kd.R_drew)); exact (Kd.R_mono (Kd.R_far (p := ⟨gb253, 8, none⟩) (Kd.R_far (p := ⟨gb253, 7, none⟩) (Kd.R_far (p := ⟨gb253, 6, none⟩) (Kd.R_far (p := ⟨gb253, 5, none⟩) (Kd.R_far (p := ⟨gb253, 4, none⟩) (Kd.R_far (p := ⟨gb253, 3, none⟩) (Kd.R_far (p := ⟨gb253, 2, none⟩) (Kd.R_far (p := ⟨gb253, 1, none⟩) (Kd.R_far (p := ⟨gb253, 0, none⟩) (Kd.R_types HO237.out BK253.out (by decide)) (fun _ hk => hk.2) (.int .i64 t243)) (fun _ hk => hk.2) (.int .i64 t244)) (fun _ hk => hk.2) (.int .i64 t245)) (fun _ hk => hk.2) (.int .i64 t246)) (fun _ hk => hk.2) (.int .u64 t247)) (fun _ hk => hk.2) (.int .u64 t248)) (fun _ hk => hk.2) (.int .i64 t249)) (fun _ hk => hk.2) (.int .i64 t250)) (fun _ hk => hk.2) (.int .i64 t251)) (fun _ h_ => h_.1))) hb); have n1_ := Aside0.mk (Kd.R_below (by (with_reducible repeat (first | apply Kd.R_alloc | apply Kd.R_drewN | apply Kd.R_drew)); exact (Kd.R_mono (Kd.R_far (p := ⟨gb253, 8, none⟩) (Kd.R_far (p := ⟨gb253, 7, none⟩) (Kd.R_far (p := ⟨gb253, 6, none⟩) (Kd.R_far (p := ⟨gb253, 5, none⟩) (Kd.R_far (p := ⟨gb253, 4, none⟩) (Kd.R_far (p := ⟨gb253, 3, none⟩) (Kd.R_far (p := ⟨gb253, 2, none⟩) (Kd.R_far (p := ⟨gb253, 1, none⟩) (Kd.R_far (p := ⟨gb253, 0, none⟩) (Kd.R_types HO241.out BK253.out (by decide)) (fun _ hk => hk.2) (.int .i64 t243)) (fun _ hk => hk.2) (.int .i64 t244)) (fun _ hk => hk.2) (.int .i64 t245)) (fun _ hk => hk.2) (.int .i64 t246)) (fun _ hk => hk.2) (.int .u64 t247)) (fun _ hk => hk.2) (.int .u64 t248)) (fun _ hk => hk.2) (.int .i64 t249)) (fun _ hk => hk.2) (.int .i64 t250)) (fun _ hk => hk.2) (.int .i64 t251)) (fun _ h_ => h_.1))) hb); have n2_ := Aside0.mk (blk_below (g := gb233) (o := .cells #[.int .i64 a0_0, .int .i64 a0_1, .int .i64 a0_2, .int .i64 a0_3, .int .u64 a0_4, .int .u64 a0_5, .int .i64 a0_6, .int .i64 a0_7, .int .i64 a0_8] 25 (0, 0)) (by (with_reducible repeat (first | refine blk_drewN ?_ _ | refine blk_drew ?_ | refine blk_alloc ?_ _)); refine blk_far ?_ NB233_253.out _; (with_reducible repeat (first | refine blk_drewN ?_ _ | refine blk_drew ?_ | refine blk_alloc ?_ _)); refine blk_far ?_ NB233_253.out _; (with_reducible repeat (first | refine blk_drewN ?_ _ | refine blk_drew ?_ | refine blk_alloc ?_ _)); refine blk_far ?_ NB233_253.out _; (with_reducible repeat (first | refine blk_drewN ?_ _ | refine blk_drew ?_ | refine blk_alloc ?_ _)); refine blk_far ?_ NB233_253.out _; (with_reducible repeat (first | refine blk_drewN ?_ _ | refine blk_drew ?_ | refine blk_alloc ?_ _)); refine blk_far ?_ NB233_253.out _; (with_reducible repeat (first | refine blk_drewN ?_ _ | refine blk_drew ?_ | refine blk_alloc ?_ _)); refine blk_far ?_ NB233_253.out _; (with_reducible repeat (first | refine blk_drewN ?_ _ | refine blk_drew ?_ | refine blk_alloc ?_ _)); refine blk_far ?_ NB233_253.out _; (with_reducible repeat (first | refine blk_drewN ?_ _ | refine blk_drew ?_ | refine blk_alloc ?_ _)); refine blk_far ?_ NB233_253.out _; (with_reducible repeat (first | refine blk_drewN ?_ _ | refine blk_drew ?_ | refine blk_alloc ?_ _)); refine blk_far ?_ NB233_253.out _; (with_reducible repeat (first | refine blk_drewN ?_ _ | refine blk_drew ?_ | refine blk_alloc ?_ _)); exact BK233.out) hb); have n3_ := Aside0.mk (blk_below (g := gb253) (o := .cells #[.int .i64 t243, .int .i64 t244, .int .i64 t245, .int .i64 t246, .int .u64 t247, .int .u64 t248, .int .i64 t249, .int .i64 t250, .int .i64 t251] 25 (0, 0)) (by (with_reducible repeat (first | refine blk_drewN ?_ _ | refine blk_drew ?_ | refine blk_alloc ?_ _)); refine blk_put (cs := #[.int .i64 t243, .int .i64 t244, .int .i64 t245, .int .i64 t246, .int .u64 t247, .int .u64 t248, .int .i64 t249, .int .i64 t250, .int .i64 0]) ?_ 8 _ rfl; (with_reducible repeat (first | refine blk_drewN ?_ _ | refine blk_drew ?_ | refine blk_alloc ?_ _)); refine blk_put (cs := #[.int .i64 t243, .int .i64 t244, .int .i64 t245, .int .i64 t246, .int .u64 t247, .int .u64 t248, .int .i64 t249, .int .i64 0, .int .i64 0]) ?_ 7 _ rfl; (with_reducible repeat (first | refine blk_drewN ?_ _ | refine blk_drew ?_ | refine blk_alloc ?_ _)); refine blk_put (cs := #[.int .i64 t243, .int .i64 t244, .int .i64 t245, .int .i64 t246, .int .u64 t247, .int .u64 t248, .int .i64 0, .int .i64 0, .int .i64 0]) ?_ 6 _ rfl; (with_reducible repeat (first | refine blk_drewN ?_ _ | refine blk_drew ?_ | refine blk_alloc ?_ _)); refine blk_put (cs := #[.int .i64 t243, .int .i64 t244, .int .i64 t245, .int .i64 t246, .int .u64 t247, .int .u64 0, .int .i64 0, .int .i64 0, .int .i64 0]) ?_ 5 _ rfl; (with_reducible repeat (first | refine blk_drewN ?_ _ | refine blk_drew ?_ | refine blk_alloc ?_ _)); refine blk_put (cs := #[.int .i64 t243, .int .i64 t244, .int .i64 t245, .int .i64 t246, .int .u64 0, .int .u64 0, .int .i64 0, .int .i64 0, .int .i64 0]) ?_ 4 _ rfl; (with_reducible repeat (first | refine blk_drewN ?_ _ | refine blk_drew ?_ | refine blk_alloc ?_ _)); refine blk_put (cs := #[.int .i64 t243, .int .i64 t244, .int .i64 t245, .int .i64 0, .int .u64 0, .int .u64 0, .int .i64 0, .int .i64 0, .int .i64 0]) ?_ 3 _ rfl; (with_reducible repeat (first | refine blk_drewN ?_ _ | refine blk_drew ?_ | refine blk_alloc ?_ _)); refine blk_put (cs := #[.int .i64 t243, .int .i64 t244, .int .i64 0, .int .i64 0, .int .u64 0, .int .u64 0, .int .i64 0, .int .i64 0, .int .i64 0]) ?_ 2 _ rfl; (with_reducible repeat (first | refine blk_drewN ?_ _ | refine blk_drew ?_ | refine blk_alloc ?_ _)); refine blk_put (cs := #[.int .i64 t243, .int .i64 0, .int .i64 0, .int .i64 0, .int .u64 0, .int .u64 0, .int .i64 0, .int .i64 0, .int .i64 0]) ?_ 1 _ rfl; (with_reducible repeat (first | refine blk_drewN ?_ _ | refine blk_drew ?_ | refine blk_alloc ?_ _)); refine blk_put (cs := #[.int .i64 0, .int .i64 0, .int .i64 0, .int .i64 0, .int .u64 0, .int .u64 0, .int .i64 0, .int .i64 0, .int .i64 0]) ?_ 0 _ rfl; (with_reducible repeat (first | refine blk_drewN ?_ _ | refine blk_drew ?_ | refine blk_alloc ?_ _)); exact BK253.out) hb); have n4_ := Aside0.mk (below_step (by repeat (first | (with_reducible first | exact HB.out | apply below_alloc | apply pw_below_drewN | apply below_drew1 | refine below_set ?_ GE233.out | refine below_set ?_ GE253.out) | exact HB.out)) hb); clear HO237; clear HO241; clear BK233; clear BK253; clear HB; have HO237 := n0_; have HO241 := n1_; have BK233 := n2_; have BK253 := n3_; have HB := n4_; clear n0_ n1_ n2_ n3_ n4_; (try clear hb); (try clear hb2); (try clear hk); (try clear hi)) | ((with_reducible refine gate_dst (N := 18) rfl ?_); (try (refine gate_guard (by rfl) ?_; dsimp only)); refine box_event ?hg (N := 18) ?hd (cs := #[.int .i64 0, .int .i64 0, .int .i64 0, .int .i64 0, .int .u64 0, .int .u64 0, .int .i64 0, .int .i64 0, .int .i64 0]) (t := 25) ?hr ?_; (case hd => rfl); (case hg => rfl); (case hr => first | (go_simp; done) | (go_simp; rfl)); intro gb264 hg w43 hbox hb; have n0_ := Aside0.mk (Kd.R_below (by (with_reducible repeat (first | apply Kd.R_alloc | apply Kd.R_drewN | apply Kd.R_drew)); exact HO237.out) hb); have n1_ := Aside0.mk (Kd.R_below (by (with_reducible repeat (first | apply Kd.R_alloc | apply Kd.R_drewN | apply Kd.R_drew)); exact HO241.out) hb); have n2_ := Aside0.mk (blk_below (g := gb233) (o := .cells #[.int .i64 a0_0, .int .i64 a0_1, .int .i64 a0_2, .int .i64 a0_3, .int .u64 a0_4, .int .u64 a0_5, .int .i64 a0_6, .int .i64 a0_7, .int .i64 a0_8] 25 (0, 0)) (by (with_reducible repeat (first | refine blk_drewN ?_ _ | refine blk_drew ?_ | refine blk_alloc ?_ _)); exact BK233.out) hb); have n3_ := Aside0.mk (blk_below (g := gb253) (o := .cells #[.int .i64 t243, .int .i64 t244, .int .i64 t245, .int .i64 t246, .int .u64 t247, .int .u64 t248, .int .i64 t249, .int .i64 t250, .int .i64 t251] 25 (0, 0)) (by (with_reducible repeat (first | refine blk_drewN ?_ _ | refine blk_drew ?_ | refine blk_alloc ?_ _)); exact BK253.out) hb); have n4_ := Aside0.mk (below_step (by repeat (first | (with_reducible first | exact HB.out | apply below_alloc | apply pw_below_drewN | apply below_drew1 | refine below_set ?_ GE233.out | refine below_set ?_ GE253.out) | exact HB.out)) hb); have n5_ := Aside0.mk (hbox); have n6_ := Aside0.mk ((by rw [hg]; exact (below_size (by repeat (first | (with_reducible first | exact HB.out | apply below_alloc | apply pw_below_drewN | apply below_drew1 | refine below_set ?_ GE233.out | refine below_set ?_ GE253.out) | exact HB.out))) : w.heap.size ≤ gb264)); have n7_ := Aside0.mk ((by rw [hg]; exact (below_size (by repeat (first | (with_reducible first | exact HB.out | apply below_alloc | apply pw_below_drewN | apply below_drew1 | refine below_set ?_ GE233.out | refine below_set ?_ GE253.out) | exact HB.out))) : w.heap.size ≤ gb264)); have n8_ := Aside0.mk ((by rw [hg]; exact Nat.ne_of_lt (blk_lt (g := gb233) (o := .cells #[.int .i64 a0_0, .int .i64 a0_1, .int .i64 a0_2, .int .i64 a0_3, .int .u64 a0_4, .int .u64 a0_5, .int .i64 a0_6, .int .i64 a0_7, .int .i64 a0_8] 25 (0, 0)) (by (with_reducible repeat (first | refine blk_drewN ?_ _ | refine blk_drew ?_ | refine blk_alloc ?_ _)); exact BK233.out)) : gb233 ≠ gb264)); have n9_ := Aside0.mk ((by rw [hg]; exact Nat.ne_of_gt (blk_lt (g := gb233) (o := .cells #[.int .i64 a0_0, .int .i64 a0_1, .int .i64 a0_2, .int .i64 a0_3, .int .u64 a0_4, .int .u64 a0_5, .int .i64 a0_6, .int .i64 a0_7, .int .i64 a0_8] 25 (0, 0)) (by (with_reducible repeat (first | refine blk_drewN ?_ _ | refine blk_drew ?_ | refine blk_alloc ?_ _)); exact BK233.out)) : gb264 ≠ gb233)); have n10_ := Aside0.mk ((by rw [hg]; exact Nat.ne_of_lt (blk_lt (g := gb253) (o := .cells #[.int .i64 t243, .int .i64 t244, .int .i64 t245, .int .i64 t246, .int .u64 t247, .int .u64 t248, .int .i64 t249, .int .i64 t250, .int .i64 t251] 25 (0, 0)) (by (with_reducible repeat (first | refine blk_drewN ?_ _ | refine blk_drew ?_ | refine blk_alloc ?_ _)); exact BK253.out)) : gb253 ≠ gb264)); have n11_ := Aside0.mk ((by rw [hg]; exact Nat.ne_of_gt (blk_lt (g := gb253) (o := .cells #[.int .i64 t243, .int .i64 t244, .int .i64 t245, .int .i64 t246, .int .u64 t247, .int .u64 t248, .int .i64 t249, .int .i64 t250, .int .i64 t251] 25 (0, 0)) (by (with_reducible repeat (first | refine blk_drewN ?_ _ | refine blk_drew ?_ | refine blk_alloc ?_ _)); exact BK253.out)) : gb264 ≠ gb253)); clear HO237; clear HO241; clear BK233; clear BK253; clear HB; have HO237 := n0_; have HO241 := n1_; have BK233 := n2_; have BK253 := n3_; have HB := n4_; have BK264 := n5_; have GW264 := n6_; have GE264 := n7_; have NB233_264 := n8_; have NB264_233 := n9_; have NB253_264 := n10_; have NB264_253 := n11_; clear n0_ n1_ n2_ n3_ n4_ n5_ n6_ n7_ n8_ n9_ n10_ n11_; clear hb hbox hg; have hnb44 := NB264_233.out; have hnc44 := NB233_264.out; have hnb45 := NB264_253.out; have hnc45 := NB253_264.out; have hcz46_0 : w43.cell? ⟨gb264, 0, none⟩ = some (.int .i64 0) := (blk_cell BK264.out 0).trans rfl; have hcz46_1 : w43.cell? ⟨gb264, 1, none⟩ = some (.int .i64 0) := (blk_cell BK264.out 1).trans rfl; have hcz46_2 : w43.cell? ⟨gb264, 2, none⟩ = some (.int .i64 0) := (blk_cell BK264.out 2).trans rfl; have hcz46_3 : w43.cell? ⟨gb264, 3, none⟩ = some (.int .i64 0) := (blk_cell BK264.out 3).trans rfl; have hcz46_4 : w43.cell? ⟨gb264, 4, none⟩ = some (.int .u64 0) := (blk_cell BK264.out 4).trans rfl; have hcz46_5 : w43.cell? ⟨gb264, 5, none⟩ = some (.int .u64 0) := (blk_cell BK264.out 5).trans rfl; have hcz46_6 : w43.cell? ⟨gb264, 6, none⟩ = some (.int .i64 0) := (blk_cell BK264.out 6).trans rfl; have hcz46_7 : w43.cell? ⟨gb264, 7, none⟩ = some (.int .i64 0) := (blk_cell BK264.out 7).trans rfl; have hcz46_8 : w43.cell? ⟨gb264, 8, none⟩ = some (.int .i64 0) := (blk_cell BK264.out 8).trans rfl; have hfz46_0 := blk_frozen BK264.out 0; have hfz46_1 := blk_frozen BK264.out 1; have hfz46_2 := blk_frozen BK264.out 2; have hfz46_3 := blk_frozen BK264.out 3; have hfz46_4 := blk_frozen BK264.out 4; have hfz46_5 := blk_frozen BK264.out 5; have hfz46_6 := blk_frozen BK264.out 6; have hfz46_7 := blk_frozen BK264.out 7; have hfz46_8 := blk_frozen BK264.out 8; have hcz47_0 : w43.cell? ⟨gb233, 0, none⟩ = some (.int .i64 a0_0) := (blk_cell BK233.out 0).trans rfl; have hcz47_1 : w43.cell? ⟨gb233, 1, none⟩ = some (.int .i64 a0_1) := (blk_cell BK233.out 1).trans rfl; have hcz47_2 : w43.cell? ⟨gb233, 2, none⟩ = some (.int .i64 a0_2) := (blk_cell BK233.out 2).trans rfl; have hcz47_3 : w43.cell? ⟨gb233, 3, none⟩ = some (.int .i64 a0_3) := (blk_cell BK233.out 3).trans rfl; have hcz47_4 : w43.cell? ⟨gb233, 4, none⟩ = some (.int .u64 a0_4) := (blk_cell BK233.out 4).trans rfl; have hcz47_5 : w43.cell? ⟨gb233, 5, none⟩ = some (.int .u64 a0_5) := (blk_cell BK233.out 5).trans rfl; have hcz47_6 : w43.cell? ⟨gb233, 6, none⟩ = some (.int .i64 a0_6) := (blk_cell BK233.out 6).trans rfl; have hcz47_7 : w43.cell? ⟨gb233, 7, none⟩ = some (.int .i64 a0_7) := (blk_cell BK233.out 7).trans rfl; have hcz47_8 : w43.cell? ⟨gb233, 8, none⟩ = some (.int .i64 a0_8) := (blk_cell BK233.out 8).trans rfl; have hfz47_0 := blk_frozen BK233.out 0; have hfz47_1 := blk_frozen BK233.out 1; have hfz47_2 := blk_frozen BK233.out 2; have hfz47_3 := blk_frozen BK233.out 3; have hfz47_4 := blk_frozen BK233.out 4; have hfz47_5 := blk_frozen BK233.out 5; have hfz47_6 := blk_frozen BK233.out 6; have hfz47_7 := blk_frozen BK233.out 7; have hfz47_8 := blk_frozen BK233.out 8) | ((with_reducible refine gate_callee (f := 14) rfl ?_); refine goesL_ (some 63) rfl rfl Try.func14 (by kernel_rfl) rfl #[.agg #[.int .i64 a0_0, .int .i64 a0_1, .int .i64 a0_2, .int .i64 a0_3, .int .u64 a0_4, .int .u64 a0_5, .int .i64 a0_6, .int .i64 a0_7, .int .i64 a0_8]] rfl (by (try simp only [List.map_toArray, List.map_cons, List.map_nil]); first | done | rfl | (simp only [List.length_drop, List.length_take]; rfl)) ?_; (with_reducible refine (pelicanref10_May.calls a0_0 a0_1 a0_2 a0_3 a0_4 a0_5 a0_6 a0_7 a0_8 t265 _ A18.out).mono ?_); rintro e w48 ⟨rfl, hb⟩; refine ⟨_, rfl, ?_⟩; have n0_ := Aside0.mk (Kd.R_below (by (with_reducible repeat (first | apply Kd.R_alloc | apply Kd.R_drewN | apply Kd.R_drew)); exact (Kd.R_mono (Kd.R_far (p := ⟨gb264, 8, none⟩) (Kd.R_far (p := ⟨gb264, 7, none⟩) (Kd.R_far (p := ⟨gb264, 6, none⟩) (Kd.R_far (p := ⟨gb264, 5, none⟩) (Kd.R_far (p := ⟨gb264, 4, none⟩) (Kd.R_far (p := ⟨gb264, 3, none⟩) (Kd.R_far (p := ⟨gb264, 2, none⟩) (Kd.R_far (p := ⟨gb264, 1, none⟩) (Kd.R_far (p := ⟨gb264, 0, none⟩) (Kd.R_types HO237.out BK264.out (by decide)) (fun _ hk => hk.2) (.int .i64 t254)) (fun _ hk => hk.2) (.int .i64 t255)) (fun _ hk => hk.2) (.int .i64 t256)) (fun _ hk => hk.2) (.int .i64 t257)) (fun _ hk => hk.2) (.int .u64 t258)) (fun _ hk => hk.2) (.int .u64 t259)) (fun _ hk => hk.2) (.int .i64 t260)) (fun _ hk => hk.2) (.int .i64 t261)) (fun _ hk => hk.2) (.int .i64 t262)) (fun _ h_ => h_.1))) hb); have n1_ := Aside0.mk (Kd.R_below (by (with_reducible repeat (first | apply Kd.R_alloc | apply Kd.R_drewN | apply Kd.R_drew)); exact (Kd.R_mono (Kd.R_far (p := ⟨gb264, 8, none⟩) (Kd.R_far (p := ⟨gb264, 7, none⟩) (Kd.R_far (p := ⟨gb264, 6, none⟩) (Kd.R_far (p := ⟨gb264, 5, none⟩) (Kd.R_far (p := ⟨gb264, 4, none⟩) (Kd.R_far (p := ⟨gb264, 3, none⟩) (Kd.R_far (p := ⟨gb264, 2, none⟩) (Kd.R_far (p := ⟨gb264, 1, none⟩) (Kd.R_far (p := ⟨gb264, 0, none⟩) (Kd.R_types HO241.out BK264.out (by decide)) (fun _ hk => hk.2) (.int .i64 t254)) (fun _ hk => hk.2) (.int .i64 t255)) (fun _ hk => hk.2) (.int .i64 t256)) (fun _ hk => hk.2) (.int .i64 t257)) (fun _ hk => hk.2) (.int .u64 t258)) (fun _ hk => hk.2) (.int .u64 t259)) (fun _ hk => hk.2) (.int .i64 t260)) (fun _ hk => hk.2) (.int .i64 t261)) (fun _ hk => hk.2) (.int .i64 t262)) (fun _ h_ => h_.1))) hb); have n2_ := Aside0.mk (blk_below (g := gb233) (o := .cells #[.int .i64 a0_0, .int .i64 a0_1, .int .i64 a0_2, .int .i64 a0_3, .int .u64 a0_4, .int .u64 a0_5, .int .i64 a0_6, .int .i64 a0_7, .int .i64 a0_8] 25 (0, 0)) (by (with_reducible repeat (first | refine blk_drewN ?_ _ | refine blk_drew ?_ | refine blk_alloc ?_ _)); refine blk_far ?_ NB233_264.out _; (with_reducible repeat (first | refine blk_drewN ?_ _ | refine blk_drew ?_ | refine blk_alloc ?_ _)); refine blk_far ?_ NB233_264.out _; (with_reducible repeat (first | refine blk_drewN ?_ _ | refine blk_drew ?_ | refine blk_alloc ?_ _)); refine blk_far ?_ NB233_264.out _; (with_reducible repeat (first | refine blk_drewN ?_ _ | refine blk_drew ?_ | refine blk_alloc ?_ _)); refine blk_far ?_ NB233_264.out _; (with_reducible repeat (first | refine blk_drewN ?_ _ | refine blk_drew ?_ | refine blk_alloc ?_ _)); refine blk_far ?_ NB233_264.out _; (with_reducible repeat (first | refine blk_drewN ?_ _ | refine blk_drew ?_ | refine blk_alloc ?_ _)); refine blk_far ?_ NB233_264.out _; (with_reducible repeat (first | refine blk_drewN ?_ _ | refine blk_drew ?_ | refine blk_alloc ?_ _)); refine blk_far ?_ NB233_264.out _; (with_reducible repeat (first | refine blk_drewN ?_ _ | refine blk_drew ?_ | refine blk_alloc ?_ _)); refine blk_far ?_ NB233_264.out _; (with_reducible repeat (first | refine blk_drewN ?_ _ | refine blk_drew ?_ | refine blk_alloc ?_ _)); refine blk_far ?_ NB233_264.out _; (with_reducible repeat (first | refine blk_drewN ?_ _ | refine blk_drew ?_ | refine blk_alloc ?_ _)); exact BK233.out) hb); have n3_ := Aside0.mk (blk_below (g := gb253) (o := .cells #[.int .i64 t243, .int .i64 t244, .int .i64 t245, .int .i64 t246, .int .u64 t247, .int .u64 t248, .int .i64 t249, .int .i64 t250, .int .i64 t251] 25 (0, 0)) (by (with_reducible repeat (first | refine blk_drewN ?_ _ | refine blk_drew ?_ | refine blk_alloc ?_ _)); refine blk_far ?_ NB253_264.out _; (with_reducible repeat (first | refine blk_drewN ?_ _ | refine blk_drew ?_ | refine blk_alloc ?_ _)); refine blk_far ?_ NB253_264.out _; (with_reducible repeat (first | refine blk_drewN ?_ _ | refine blk_drew ?_ | refine blk_alloc ?_ _)); refine blk_far ?_ NB253_264.out _; (with_reducible repeat (first | refine blk_drewN ?_ _ | refine blk_drew ?_ | refine blk_alloc ?_ _)); refine blk_far ?_ NB253_264.out _; (with_reducible repeat (first | refine blk_drewN ?_ _ | refine blk_drew ?_ | refine blk_alloc ?_ _)); refine blk_far ?_ NB253_264.out _; (with_reducible repeat (first | refine blk_drewN ?_ _ | refine blk_drew ?_ | refine blk_alloc ?_ _)); refine blk_far ?_ NB253_264.out _; (with_reducible repeat (first | refine blk_drewN ?_ _ | refine blk_drew ?_ | refine blk_alloc ?_ _)); refine blk_far ?_ NB253_264.out _; (with_reducible repeat (first | refine blk_drewN ?_ _ | refine blk_drew ?_ | refine blk_alloc ?_ _)); refine blk_far ?_ NB253_264.out _; (with_reducible repeat (first | refine blk_drewN ?_ _ | refine blk_drew ?_ | refine blk_alloc ?_ _)); refine blk_far ?_ NB253_264.out _; (with_reducible repeat (first | refine blk_drewN ?_ _ | refine blk_drew ?_ | refine blk_alloc ?_ _)); exact BK253.out) hb); have n4_ := Aside0.mk (blk_below (g := gb264) (o := .cells #[.int .i64 t254, .int .i64 t255, .int .i64 t256, .int .i64 t257, .int .u64 t258, .int .u64 t259, .int .i64 t260, .int .i64 t261, .int .i64 t262] 25 (0, 0)) (by (with_reducible repeat (first | refine blk_drewN ?_ _ | refine blk_drew ?_ | refine blk_alloc ?_ _)); refine blk_put (cs := #[.int .i64 t254, .int .i64 t255, .int .i64 t256, .int .i64 t257, .int .u64 t258, .int .u64 t259, .int .i64 t260, .int .i64 t261, .int .i64 0]) ?_ 8 _ rfl; (with_reducible repeat (first | refine blk_drewN ?_ _ | refine blk_drew ?_ | refine blk_alloc ?_ _)); refine blk_put (cs := #[.int .i64 t254, .int .i64 t255, .int .i64 t256, .int .i64 t257, .int .u64 t258, .int .u64 t259, .int .i64 t260, .int .i64 0, .int .i64 0]) ?_ 7 _ rfl; (with_reducible repeat (first | refine blk_drewN ?_ _ | refine blk_drew ?_ | refine blk_alloc ?_ _)); refine blk_put (cs := #[.int .i64 t254, .int .i64 t255, .int .i64 t256, .int .i64 t257, .int .u64 t258, .int .u64 t259, .int .i64 0, .int .i64 0, .int .i64 0]) ?_ 6 _ rfl; (with_reducible repeat (first | refine blk_drewN ?_ _ | refine blk_drew ?_ | refine blk_alloc ?_ _)); refine blk_put (cs := #[.int .i64 t254, .int .i64 t255, .int .i64 t256, .int .i64 t257, .int .u64 t258, .int .u64 0, .int .i64 0, .int .i64 0, .int .i64 0]) ?_ 5 _ rfl; (with_reducible repeat (first | refine blk_drewN ?_ _ | refine blk_drew ?_ | refine blk_alloc ?_ _)); refine blk_put (cs := #[.int .i64 t254, .int .i64 t255, .int .i64 t256, .int .i64 t257, .int .u64 0, .int .u64 0, .int .i64 0, .int .i64 0, .int .i64 0]) ?_ 4 _ rfl; (with_reducible repeat (first | refine blk_drewN ?_ _ | refine blk_drew ?_ | refine blk_alloc ?_ _)); refine blk_put (cs := #[.int .i64 t254, .int .i64 t255, .int .i64 t256, .int .i64 0, .int .u64 0, .int .u64 0, .int .i64 0, .int .i64 0, .int .i64 0]) ?_ 3 _ rfl; (with_reducible repeat (first | refine blk_drewN ?_ _ | refine blk_drew ?_ | refine blk_alloc ?_ _)); refine blk_put (cs := #[.int .i64 t254, .int .i64 t255, .int .i64 0, .int .i64 0, .int .u64 0, .int .u64 0, .int .i64 0, .int .i64 0, .int .i64 0]) ?_ 2 _ rfl; (with_reducible repeat (first | refine blk_drewN ?_ _ | refine blk_drew ?_ | refine blk_alloc ?_ _)); refine blk_put (cs := #[.int .i64 t254, .int .i64 0, .int .i64 0, .int .i64 0, .int .u64 0, .int .u64 0, .int .i64 0, .int .i64 0, .int .i64 0]) ?_ 1 _ rfl; (with_reducible repeat (first | refine blk_drewN ?_ _ | refine blk_drew ?_ | refine blk_alloc ?_ _)); refine blk_put (cs := #[.int .i64 0, .int .i64 0, .int .i64 0, .int .i64 0, .int .u64 0, .int .u64 0, .int .i64 0, .int .i64 0, .int .i64 0]) ?_ 0 _ rfl; (with_reducible repeat (first | refine blk_drewN ?_ _ | refine blk_drew ?_ | refine blk_alloc ?_ _)); exact BK264.out) hb); have n5_ := Aside0.mk (below_step (by repeat (first | (with_reducible first | exact HB.out | apply below_alloc | apply pw_below_drewN | apply below_drew1 | refine below_set ?_ GE233.out | refine below_set ?_ GE253.out | refine below_set ?_ GE264.out) | exact HB.out)) hb); clear HO237; clear HO241; clear BK233; clear BK253; clear BK264; clear HB; have HO237 := n0_; have HO241 := n1_; have BK233 := n2_; have BK253 := n3_; have BK264 := n4_; have HB := n5_; clear n0_ n1_ n2_ n3_ n4_ n5_; (try clear hb); (try clear hb2); (try clear hk); (try clear hi)) | ((with_reducible refine gate_callee (f := 15) rfl ?_); refine goesL_ (some 66) rfl rfl Try.func15 (by kernel_rfl) rfl #[.slice A2 l2.length c2, .slice A3 l3.length c3] rfl (by (try simp only [List.map_toArray, List.map_cons, List.map_nil]); first | done | rfl | (simp only [List.length_drop, List.length_take]; rfl)) ?_; (with_reducible refine (pelicanref10_Same.calls kj6 _ _ l2 _ _ l3 t266 _ ?side1 ?side2 ?side3 ?side4 A19.out).mono ?_); (case side1 => repeat (first | exact (Kd.C_below HR2.out HB.out) | (with_reducible refine Kd.C_alloc ?_ _) | (with_reducible refine Kd.C_drewN ?_ _) | (with_reducible refine Kd.C_drew ?_))); (case side2 => exact HC2.out); (case side3 => repeat (first | exact (Kd.C_below HR3.out HB.out) | (with_reducible refine Kd.C_alloc ?_ _) | (with_reducible refine Kd.C_drewN ?_ _) | (with_reducible refine Kd.C_drew ?_))); (case side4 => exact HC3.out); rintro e w' ⟨rfl, ⟨nd, rfl⟩⟩; refine ⟨_, rfl, ?_⟩) | ((with_reducible refine gate_callee (f := 16) rfl ?_); refine goesL_ (some 69) rfl rfl Try.func16 (by kernel_rfl) rfl #[.slice A2 l2.length c2, .int .i64 a4] rfl (by (try simp only [List.map_toArray, List.map_cons, List.map_nil]); first | done | rfl | (simp only [List.length_drop, List.length_take]; rfl)) ?_; (with_reducible refine (entry_Of.calls _ _ l2 a4 t267 _ ?side1 ?side2 A20.out).mono ?_); (case side1 => repeat (first | exact (Kd.C_below HR2.out (by repeat (first | (with_reducible first | exact HB.out | apply below_alloc | apply pw_below_drewN | apply below_drew1 | refine below_set ?_ GE233.out | refine below_set ?_ GE253.out | refine below_set ?_ GE264.out) | exact HB.out))) | (with_reducible refine Kd.C_alloc ?_ _) | (with_reducible refine Kd.C_drewN ?_ _) | (with_reducible refine Kd.C_drew ?_))); (case side2 => exact HC2.out); rintro e w49 ⟨v268, rfl, ho0, hb⟩; refine ⟨_, rfl, ?_⟩; have n0_ := Aside0.mk (Kd.R_below (by (with_reducible repeat (first | apply Kd.R_alloc | apply Kd.R_drewN | apply Kd.R_drew)); exact HO237.out) hb); have n1_ := Aside0.mk (Kd.R_below (by (with_reducible repeat (first | apply Kd.R_alloc | apply Kd.R_drewN | apply Kd.R_drew)); exact HO241.out) hb); have n2_ := Aside0.mk (Kd.R_lower (Kd.R_newB (Kd.R_newB (Kd.R_newB ho0 (g := gb233) (o := .cells #[.int .i64 a0_0, .int .i64 a0_1, .int .i64 a0_2, .int .i64 a0_3, .int .u64 a0_4, .int .u64 a0_5, .int .i64 a0_6, .int .i64 a0_7, .int .i64 a0_8] 25 (0, 0)) (by (with_reducible repeat (first | refine blk_drewN ?_ _ | refine blk_drew ?_ | refine blk_alloc ?_ _)); exact BK233.out)) (g := gb253) (o := .cells #[.int .i64 t243, .int .i64 t244, .int .i64 t245, .int .i64 t246, .int .u64 t247, .int .u64 t248, .int .i64 t249, .int .i64 t250, .int .i64 t251] 25 (0, 0)) (by (with_reducible repeat (first | refine blk_drewN ?_ _ | refine blk_drew ?_ | refine blk_alloc ?_ _)); exact BK253.out)) (g := gb264) (o := .cells #[.int .i64 t254, .int .i64 t255, .int .i64 t256, .int .i64 t257, .int .u64 t258, .int .u64 t259, .int .i64 t260, .int .i64 t261, .int .i64 t262] 25 (0, 0)) (by (with_reducible repeat (first | refine blk_drewN ?_ _ | refine blk_drew ?_ | refine blk_alloc ?_ _)); exact BK264.out)) (below_size (by repeat (first | (with_reducible first | exact HB.out | apply below_alloc | apply pw_below_drewN | apply below_drew1 | refine below_set ?_ GE233.out | refine below_set ?_ GE253.out | refine below_set ?_ GE264.out) | exact HB.out)))); have n3_ := Aside0.mk (blk_below (g := gb233) (o := .cells #[.int .i64 a0_0, .int .i64 a0_1, .int .i64 a0_2, .int .i64 a0_3, .int .u64 a0_4, .int .u64 a0_5, .int .i64 a0_6, .int .i64 a0_7, .int .i64 a0_8] 25 (0, 0)) (by (with_reducible repeat (first | refine blk_drewN ?_ _ | refine blk_drew ?_ | refine blk_alloc ?_ _)); exact BK233.out) hb); have n4_ := Aside0.mk (blk_below (g := gb253) (o := .cells #[.int .i64 t243, .int .i64 t244, .int .i64 t245, .int .i64 t246, .int .u64 t247, .int .u64 t248, .int .i64 t249, .int .i64 t250, .int .i64 t251] 25 (0, 0)) (by (with_reducible repeat (first | refine blk_drewN ?_ _ | refine blk_drew ?_ | refine blk_alloc ?_ _)); exact BK253.out) hb); have n5_ := Aside0.mk (blk_below (g := gb264) (o := .cells #[.int .i64 t254, .int .i64 t255, .int .i64 t256, .int .i64 t257, .int .u64 t258, .int .u64 t259, .int .i64 t260, .int .i64 t261, .int .i64 t262] 25 (0, 0)) (by (with_reducible repeat (first | refine blk_drewN ?_ _ | refine blk_drew ?_ | refine blk_alloc ?_ _)); exact BK264.out) hb); have n6_ := Aside0.mk (below_step (by repeat (first | (with_reducible first | exact HB.out | apply below_alloc | apply pw_below_drewN | apply below_drew1 | refine below_set ?_ GE233.out | refine below_set ?_ GE253.out | refine below_set ?_ GE264.out) | exact HB.out)) hb); clear HO237; clear HO241; clear BK233; clear BK253; clear BK264; clear HB; have HO237 := n0_; have HO241 := n1_; have HO269 := n2_; have BK233 := n3_; have BK253 := n4_; have BK264 := n5_; have HB := n6_; clear n0_ n1_ n2_ n3_ n4_ n5_ n6_; (try clear hb); (try clear hb2); (try clear hk); (try clear hi); (try clear ho0)) | ((with_reducible refine gate_callee (f := 17) rfl ?_); refine goesL_ (some 72) rfl rfl Try.func17 (by kernel_rfl) rfl #[.slice A2 l2.length c2, .int .i64 a4] rfl (by (try simp only [List.map_toArray, List.map_cons, List.map_nil]); first | done | rfl | (simp only [List.length_drop, List.length_take]; rfl)) ?_; (with_reducible refine (pelicanref10_Of.calls kj6 _ _ l2 a4 t270 _ ?side1 ?side2 A21.out).mono ?_); (case side1 => repeat (first | exact (Kd.C_below HR2.out HB.out) | (with_reducible refine Kd.C_alloc ?_ _) | (with_reducible refine Kd.C_drewN ?_ _) | (with_reducible refine Kd.C_drew ?_))); (case side2 => exact HC2.out); rintro e w50 ⟨v271, rfl, ho0, hb⟩; refine ⟨_, rfl, ?_⟩; have n0_ := Aside0.mk (Kd.R_below (by (with_reducible repeat (first | apply Kd.R_alloc | apply Kd.R_drewN | apply Kd.R_drew)); exact HO237.out) hb); have n1_ := Aside0.mk (Kd.R_below (by (with_reducible repeat (first | apply Kd.R_alloc | apply Kd.R_drewN | apply Kd.R_drew)); exact HO241.out) hb); have n2_ := Aside0.mk (Kd.R_elder' (by (with_reducible repeat (first | apply Kd.R_alloc | apply Kd.R_drewN | apply Kd.R_drew)); exact HO269.out) (Kd.R_base ho0) hb); have n3_ := Aside0.mk (Kd.R_lower (Kd.R_newB (Kd.R_newB (Kd.R_newB (Kd.R_new' ho0 (Kd.R_lt (by (with_reducible repeat (first | apply Kd.R_alloc | apply Kd.R_drewN | apply Kd.R_drew)); exact HO269.out))) (g := gb233) (o := .cells #[.int .i64 a0_0, .int .i64 a0_1, .int .i64 a0_2, .int .i64 a0_3, .int .u64 a0_4, .int .u64 a0_5, .int .i64 a0_6, .int .i64 a0_7, .int .i64 a0_8] 25 (0, 0)) (by (with_reducible repeat (first | refine blk_drewN ?_ _ | refine blk_drew ?_ | refine blk_alloc ?_ _)); exact BK233.out)) (g := gb253) (o := .cells #[.int .i64 t243, .int .i64 t244, .int .i64 t245, .int .i64 t246, .int .u64 t247, .int .u64 t248, .int .i64 t249, .int .i64 t250, .int .i64 t251] 25 (0, 0)) (by (with_reducible repeat (first | refine blk_drewN ?_ _ | refine blk_drew ?_ | refine blk_alloc ?_ _)); exact BK253.out)) (g := gb264) (o := .cells #[.int .i64 t254, .int .i64 t255, .int .i64 t256, .int .i64 t257, .int .u64 t258, .int .u64 t259, .int .i64 t260, .int .i64 t261, .int .i64 t262] 25 (0, 0)) (by (with_reducible repeat (first | refine blk_drewN ?_ _ | refine blk_drew ?_ | refine blk_alloc ?_ _)); exact BK264.out)) (below_size (by repeat (first | (with_reducible first | exact HB.out | apply below_alloc | apply pw_below_drewN | apply below_drew1 | refine below_set ?_ GE233.out | refine below_set ?_ GE253.out | refine below_set ?_ GE264.out) | exact HB.out)))); have n4_ := Aside0.mk (blk_below (g := gb233) (o := .cells #[.int .i64 a0_0, .int .i64 a0_1, .int .i64 a0_2, .int .i64 a0_3, .int .u64 a0_4, .int .u64 a0_5, .int .i64 a0_6, .int .i64 a0_7, .int .i64 a0_8] 25 (0, 0)) (by (with_reducible repeat (first | refine blk_drewN ?_ _ | refine blk_drew ?_ | refine blk_alloc ?_ _)); exact BK233.out) hb); have n5_ := Aside0.mk (blk_below (g := gb253) (o := .cells #[.int .i64 t243, .int .i64 t244, .int .i64 t245, .int .i64 t246, .int .u64 t247, .int .u64 t248, .int .i64 t249, .int .i64 t250, .int .i64 t251] 25 (0, 0)) (by (with_reducible repeat (first | refine blk_drewN ?_ _ | refine blk_drew ?_ | refine blk_alloc ?_ _)); exact BK253.out) hb); have n6_ := Aside0.mk (blk_below (g := gb264) (o := .cells #[.int .i64 t254, .int .i64 t255, .int .i64 t256, .int .i64 t257, .int .u64 t258, .int .u64 t259, .int .i64 t260, .int .i64 t261, .int .i64 t262] 25 (0, 0)) (by (with_reducible repeat (first | refine blk_drewN ?_ _ | refine blk_drew ?_ | refine blk_alloc ?_ _)); exact BK264.out) hb); have n7_ := Aside0.mk (below_step (by repeat (first | (with_reducible first | exact HB.out | apply below_alloc | apply pw_below_drewN | apply below_drew1 | refine below_set ?_ GE233.out | refine below_set ?_ GE253.out | refine below_set ?_ GE264.out) | exact HB.out)) hb); clear HO237; clear HO241; clear HO269; clear BK233; clear BK253; clear BK264; clear HB; have HO237 := n0_; have HO241 := n1_; have HO269 := n2_; have HO272 := n3_; have BK233 := n4_; have BK253 := n5_; have BK264 := n6_; have HB := n7_; clear n0_ n1_ n2_ n3_ n4_ n5_ n6_ n7_; (try clear hb); (try clear hb2); (try clear hk); (try clear hi); (try clear ho0); obtain ⟨Ao51, co51, eo51⟩ := Kd.R_slice HO269.out; subst eo51; obtain ⟨Ao52, co52, eo52⟩ := Kd.R_slice HO272.out; subst eo52) | ((with_reducible refine gate_callee (f := 15) rfl ?_); refine goesL_ (some 73) rfl rfl Try.func15 (by kernel_rfl) rfl #[.slice Ao51 t267.length co51, .slice Ao52 t270.length co52] rfl (by (try simp only [List.map_toArray, List.map_cons, List.map_nil]); first | done | rfl | (simp only [List.length_drop, List.length_take]; rfl)) ?_; (with_reducible refine (pelicanref10_Same.calls kj6 _ _ t267 _ _ t270 true _ ?side1 ?side2 ?side3 ?side4 A22.out).mono ?_); (case side1 => repeat (first | exact (Kd.R_reads' HO269.out).2.2 | (with_reducible refine Kd.C_alloc ?_ _) | (with_reducible refine Kd.C_drewN ?_ _) | (with_reducible refine Kd.C_drew ?_))); (case side2 => exact (Kd.R_reads' HO269.out).2.1); (case side3 => repeat (first | exact (Kd.R_reads' HO272.out).2.2 | (with_reducible refine Kd.C_alloc ?_ _) | (with_reducible refine Kd.C_drewN ?_ _) | (with_reducible refine Kd.C_drew ?_))); (case side4 => exact (Kd.R_reads' HO272.out).2.1); rintro e w' ⟨rfl, ⟨nd, rfl⟩⟩; refine ⟨_, rfl, ?_⟩; have hcv53 := own_string (P := Try.prog) Try.underlying26 Try.underlying5 Try.underlying9 (Kd.own_of_R HO237.out); have hcv54 := fun n_ => own_string (P := Try.prog) Try.underlying26 Try.underlying5 Try.underlying9 (Kd.own_of_R (Kd.R_drewN HO237.out n_)); have hcv55 := own_string (P := Try.prog) Try.underlying26 Try.underlying5 Try.underlying9 (Kd.own_of_R HO241.out); have hcv56 := fun n_ => own_string (P := Try.prog) Try.underlying26 Try.underlying5 Try.underlying9 (Kd.own_of_R (Kd.R_drewN HO241.out n_)); have hcz57_0 : w50.cell? ⟨gb253, 0, none⟩ = some (.int .i64 t243) := (blk_cell BK253.out 0).trans rfl; have hcz57_1 : w50.cell? ⟨gb253, 1, none⟩ = some (.int .i64 t244) := (blk_cell BK253.out 1).trans rfl; have hcz57_2 : w50.cell? ⟨gb253, 2, none⟩ = some (.int .i64 t245) := (blk_cell BK253.out 2).trans rfl; have hcz57_3 : w50.cell? ⟨gb253, 3, none⟩ = some (.int .i64 t246) := (blk_cell BK253.out 3).trans rfl; have hcz57_4 : w50.cell? ⟨gb253, 4, none⟩ = some (.int .u64 t247) := (blk_cell BK253.out 4).trans rfl; have hcz57_5 : w50.cell? ⟨gb253, 5, none⟩ = some (.int .u64 t248) := (blk_cell BK253.out 5).trans rfl; have hcz57_6 : w50.cell? ⟨gb253, 6, none⟩ = some (.int .i64 t249) := (blk_cell BK253.out 6).trans rfl; have hcz57_7 : w50.cell? ⟨gb253, 7, none⟩ = some (.int .i64 t250) := (blk_cell BK253.out 7).trans rfl; have hcz57_8 : w50.cell? ⟨gb253, 8, none⟩ = some (.int .i64 t251) := (blk_cell BK253.out 8).trans rfl; have hfz57_0 := blk_frozen BK253.out 0; have hfz57_1 := blk_frozen BK253.out 1; have hfz57_2 := blk_frozen BK253.out 2; have hfz57_3 := blk_frozen BK253.out 3; have hfz57_4 := blk_frozen BK253.out 4; have hfz57_5 := blk_frozen BK253.out 5; have hfz57_6 := blk_frozen BK253.out 6; have hfz57_7 := blk_frozen BK253.out 7; have hfz57_8 := blk_frozen BK253.out 8; have hcz58_0 : w50.cell? ⟨gb264, 0, none⟩ = some (.int .i64 t254) := (blk_cell BK264.out 0).trans rfl; have hcz58_1 : w50.cell? ⟨gb264, 1, none⟩ = some (.int .i64 t255) := (blk_cell BK264.out 1).trans rfl; have hcz58_2 : w50.cell? ⟨gb264, 2, none⟩ = some (.int .i64 t256) := (blk_cell BK264.out 2).trans rfl; have hcz58_3 : w50.cell? ⟨gb264, 3, none⟩ = some (.int .i64 t257) := (blk_cell BK264.out 3).trans rfl; have hcz58_4 : w50.cell? ⟨gb264, 4, none⟩ = some (.int .u64 t258) := (blk_cell BK264.out 4).trans rfl; have hcz58_5 : w50.cell? ⟨gb264, 5, none⟩ = some (.int .u64 t259) := (blk_cell BK264.out 5).trans rfl; have hcz58_6 : w50.cell? ⟨gb264, 6, none⟩ = some (.int .i64 t260) := (blk_cell BK264.out 6).trans rfl; have hcz58_7 : w50.cell? ⟨gb264, 7, none⟩ = some (.int .i64 t261) := (blk_cell BK264.out 7).trans rfl; have hcz58_8 : w50.cell? ⟨gb264, 8, none⟩ = some (.int .i64 t262) := (blk_cell BK264.out 8).trans rfl; have hfz58_0 := blk_frozen BK264.out 0; have hfz58_1 := blk_frozen BK264.out 1; have hfz58_2 := blk_frozen BK264.out 2; have hfz58_3 := blk_frozen BK264.out 3; have hfz58_4 := blk_frozen BK264.out 4; have hfz58_5 := blk_frozen BK264.out 5; have hfz58_6 := blk_frozen BK264.out 6; have hfz58_7 := blk_frozen BK264.out 7; have hfz58_8 := blk_frozen BK264.out 8; have hcz59_0 : w50.cell? ⟨gb233, 0, none⟩ = some (.int .i64 a0_0) := (blk_cell BK233.out 0).trans rfl; have hcz59_1 : w50.cell? ⟨gb233, 1, none⟩ = some (.int .i64 a0_1) := (blk_cell BK233.out 1).trans rfl; have hcz59_2 : w50.cell? ⟨gb233, 2, none⟩ = some (.int .i64 a0_2) := (blk_cell BK233.out 2).trans rfl; have hcz59_3 : w50.cell? ⟨gb233, 3, none⟩ = some (.int .i64 a0_3) := (blk_cell BK233.out 3).trans rfl; have hcz59_4 : w50.cell? ⟨gb233, 4, none⟩ = some (.int .u64 a0_4) := (blk_cell BK233.out 4).trans rfl; have hcz59_5 : w50.cell? ⟨gb233, 5, none⟩ = some (.int .u64 a0_5) := (blk_cell BK233.out 5).trans rfl; have hcz59_6 : w50.cell? ⟨gb233, 6, none⟩ = some (.int .i64 a0_6) := (blk_cell BK233.out 6).trans rfl; have hcz59_7 : w50.cell? ⟨gb233, 7, none⟩ = some (.int .i64 a0_7) := (blk_cell BK233.out 7).trans rfl; have hcz59_8 : w50.cell? ⟨gb233, 8, none⟩ = some (.int .i64 a0_8) := (blk_cell BK233.out 8).trans rfl; have hfz59_0 := blk_frozen BK233.out 0; have hfz59_1 := blk_frozen BK233.out 1; have hfz59_2 := blk_frozen BK233.out 2; have hfz59_3 := blk_frozen BK233.out 3; have hfz59_4 := blk_frozen BK233.out 4; have hfz59_5 := blk_frozen BK233.out 5; have hfz59_6 := blk_frozen BK233.out 6; have hfz59_7 := blk_frozen BK233.out 7; have hfz59_8 := blk_frozen BK233.out 8) | (go_at_call 18; (with_reducible refine (entry_May.calls a0_0 a0_1 a0_2 a0_3 a0_4 a0_5 a0_6 a0_7 a0_8 t274 _ A27.out).mono ?_); rintro e w60 ⟨rfl, hb⟩; have n0_ := Aside0.mk (Kd.R_below (by (with_reducible repeat (first | apply Kd.R_alloc | apply Kd.R_drewN | apply Kd.R_drew)); exact HO237.out) hb); have n1_ := Aside0.mk (Kd.R_below (by (with_reducible repeat (first | apply Kd.R_alloc | apply Kd.R_drewN | apply Kd.R_drew)); exact HO241.out) hb); have n2_ := Aside0.mk (Kd.R_below (by (with_reducible repeat (first | apply Kd.R_alloc | apply Kd.R_drewN | apply Kd.R_drew)); exact HO269.out) hb); have n3_ := Aside0.mk (Kd.R_below (by (with_reducible repeat (first | apply Kd.R_alloc | apply Kd.R_drewN | apply Kd.R_drew)); exact HO272.out) hb); have n4_ := Aside0.mk (blk_below (g := gb233) (o := .cells #[.int .i64 a0_0, .int .i64 a0_1, .int .i64 a0_2, .int .i64 a0_3, .int .u64 a0_4, .int .u64 a0_5, .int .i64 a0_6, .int .i64 a0_7, .int .i64 a0_8] 25 (0, 0)) (by (with_reducible repeat (first | refine blk_drewN ?_ _ | refine blk_drew ?_ | refine blk_alloc ?_ _)); exact BK233.out) hb); have n5_ := Aside0.mk (blk_below (g := gb253) (o := .cells #[.int .i64 t243, .int .i64 t244, .int .i64 t245, .int .i64 t246, .int .u64 t247, .int .u64 t248, .int .i64 t249, .int .i64 t250, .int .i64 t251] 25 (0, 0)) (by (with_reducible repeat (first | refine blk_drewN ?_ _ | refine blk_drew ?_ | refine blk_alloc ?_ _)); exact BK253.out) hb); have n6_ := Aside0.mk (blk_below (g := gb264) (o := .cells #[.int .i64 t254, .int .i64 t255, .int .i64 t256, .int .i64 t257, .int .u64 t258, .int .u64 t259, .int .i64 t260, .int .i64 t261, .int .i64 t262] 25 (0, 0)) (by (with_reducible repeat (first | refine blk_drewN ?_ _ | refine blk_drew ?_ | refine blk_alloc ?_ _)); exact BK264.out) hb); have n7_ := Aside0.mk (below_step (by repeat (first | (with_reducible first | exact HB.out | apply below_alloc | apply pw_below_drewN | apply below_drew1 | refine below_set ?_ GE233.out | refine below_set ?_ GE253.out | refine below_set ?_ GE264.out) | exact HB.out)) hb); clear HO237; clear HO241; clear HO269; clear HO272; clear BK233; clear BK253; clear BK264; clear HB; have HO237 := n0_; have HO241 := n1_; have HO269 := n2_; have HO272 := n3_; have BK233 := n4_; have BK253 := n5_; have BK264 := n6_; have HB := n7_; clear n0_ n1_ n2_ n3_ n4_ n5_ n6_ n7_; (try clear hb); (try clear hb2); (try clear hk); (try clear hi)) | (go_at_call 19; (with_reducible refine (entry_Same.calls kj6 _ _ l2 _ _ l3 t275 _ ?side1 ?side2 ?side3 ?side4 A29.out).mono ?_); (case side1 => repeat (first | exact (Kd.C_below HR2.out HB.out) | (with_reducible refine Kd.C_alloc ?_ _) | (with_reducible refine Kd.C_drewN ?_ _) | (with_reducible refine Kd.C_drew ?_))); (case side2 => exact HC2.out); (case side3 => repeat (first | exact (Kd.C_below HR3.out HB.out) | (with_reducible refine Kd.C_alloc ?_ _) | (with_reducible refine Kd.C_drewN ?_ _) | (with_reducible refine Kd.C_drew ?_))); (case side4 => exact HC3.out); rintro e w' ⟨rfl, ⟨nd, rfl⟩⟩) | (go_at_call 20; (with_reducible refine (entry_Epoch.calls _ _ l2 t276 _ ?side1 ?side2 A32.out).mono ?_); (case side1 => repeat (first | exact (Kd.C_below HR2.out (by repeat (first | (with_reducible first | exact HB.out | apply below_alloc | apply pw_below_drewN | apply below_drew1 | refine below_set ?_ GE233.out | refine below_set ?_ GE253.out | refine below_set ?_ GE264.out) | exact HB.out))) | (with_reducible refine Kd.C_alloc ?_ _) | (with_reducible refine Kd.C_drewN ?_ _) | (with_reducible refine Kd.C_drew ?_))); (case side2 => exact HC2.out); rintro e w61 ⟨rfl, hb⟩; have n0_ := Aside0.mk (Kd.R_below (by (with_reducible repeat (first | apply Kd.R_alloc | apply Kd.R_drewN | apply Kd.R_drew)); exact HO237.out) hb); have n1_ := Aside0.mk (Kd.R_below (by (with_reducible repeat (first | apply Kd.R_alloc | apply Kd.R_drewN | apply Kd.R_drew)); exact HO241.out) hb); have n2_ := Aside0.mk (Kd.R_below (by (with_reducible repeat (first | apply Kd.R_alloc | apply Kd.R_drewN | apply Kd.R_drew)); exact HO269.out) hb); have n3_ := Aside0.mk (Kd.R_below (by (with_reducible repeat (first | apply Kd.R_alloc | apply Kd.R_drewN | apply Kd.R_drew)); exact HO272.out) hb); have n4_ := Aside0.mk (blk_below (g := gb233) (o := .cells #[.int .i64 a0_0, .int .i64 a0_1, .int .i64 a0_2, .int .i64 a0_3, .int .u64 a0_4, .int .u64 a0_5, .int .i64 a0_6, .int .i64 a0_7, .int .i64 a0_8] 25 (0, 0)) (by (with_reducible repeat (first | refine blk_drewN ?_ _ | refine blk_drew ?_ | refine blk_alloc ?_ _)); exact BK233.out) hb); have n5_ := Aside0.mk (blk_below (g := gb253) (o := .cells #[.int .i64 t243, .int .i64 t244, .int .i64 t245, .int .i64 t246, .int .u64 t247, .int .u64 t248, .int .i64 t249, .int .i64 t250, .int .i64 t251] 25 (0, 0)) (by (with_reducible repeat (first | refine blk_drewN ?_ _ | refine blk_drew ?_ | refine blk_alloc ?_ _)); exact BK253.out) hb); have n6_ := Aside0.mk (blk_below (g := gb264) (o := .cells #[.int .i64 t254, .int .i64 t255, .int .i64 t256, .int .i64 t257, .int .u64 t258, .int .u64 t259, .int .i64 t260, .int .i64 t261, .int .i64 t262] 25 (0, 0)) (by (with_reducible repeat (first | refine blk_drewN ?_ _ | refine blk_drew ?_ | refine blk_alloc ?_ _)); exact BK264.out) hb); have n7_ := Aside0.mk (below_step (by repeat (first | (with_reducible first | exact HB.out | apply below_alloc | apply pw_below_drewN | apply below_drew1 | refine below_set ?_ GE233.out | refine below_set ?_ GE253.out | refine below_set ?_ GE264.out) | exact HB.out)) hb); clear HO237; clear HO241; clear HO269; clear HO272; clear BK233; clear BK253; clear BK264; clear HB; have HO237 := n0_; have HO241 := n1_; have HO269 := n2_; have HO272 := n3_; have BK233 := n4_; have BK253 := n5_; have BK264 := n6_; have HB := n7_; clear n0_ n1_ n2_ n3_ n4_ n5_ n6_ n7_; (try clear hb); (try clear hb2); (try clear hk); (try clear hi)) | (go_at_call 21; (with_reducible refine (pelicanref10_Epoch.calls kj6 _ _ l2 t277 _ ?side1 ?side2 A33.out).mono ?_); (case side1 => repeat (first | exact (Kd.C_below HR2.out HB.out) | (with_reducible refine Kd.C_alloc ?_ _) | (with_reducible refine Kd.C_drewN ?_ _) | (with_reducible refine Kd.C_drew ?_))); (case side2 => exact HC2.out); rintro e w' ⟨rfl, ⟨nd, rfl⟩⟩))
           go_ret
           exact ⟨by first | rfl | (simp [errW_none, errW_some] <;> rfl) | (simp [*, errW_none, errW_some] <;> rfl), by repeat (first | (with_reducible first | exact HB.out | apply below_alloc | apply pw_below_drewN | apply below_drew1 | refine below_set ?_ GE233.out | refine below_set ?_ GE253.out | refine below_set ?_ GE264.out) | exact HB.out)⟩
          ·replace c31 := Bool.eq_false_iff.mpr c31
           subst c31
           have H1 : (some false) = some r := by rw [if_neg (show ¬ (false = true) by decide)] at H; exact H
           clear H
           have H := H1
           clear H1
           exact absurd ((Option.some.inj H).trans hr_.out) (by decide)
         ·rw [if_neg c30] at H
          have c30b0 : (t275 == t266) = false := by simpa using c30
          (try (have c30b1 : decide (t275 = t266) = false := by simpa using c30))
          (try (have c30b2 : (t275 == t266) = false := by simpa using c30))
          (try (have c30b3 : ¬ (t275 = t266) := by simpa using c30))
          clear c30
          exact absurd ((Option.some.inj H).trans hr_.out) (by decide)
        ·rw [if_neg c28] at H
         have c28b0 : (t274 == t265) = false := by simpa using c28
         (try (have c28b1 : decide (t274 = t265) = false := by simpa using c28))
         (try (have c28b2 : (t274 == t265) = false := by simpa using c28))
         (try (have c28b3 : ¬ (t274 = t265) := by simpa using c28))
         clear c28
         exact absurd ((Option.some.inj H).trans hr_.out) (by decide)
       ·rw [if_neg c26] at H
        have c26b0 : (t252 == t263) = false := by simpa using c26
        (try (have c26b1 : decide (t252 = t263) = false := by simpa using c26))
        (try (have c26b2 : (t252 == t263) = false := by simpa using c26))
        (try (have c26b3 : ¬ (t252 = t263) := by simpa using c26))
        clear c26
        exact absurd ((Option.some.inj H).trans hr_.out) (by decide)
      ·rw [if_neg c25] at H
       have c25b0 : (t243 == t254 && (t244 == t255 && (t245 == t256 && (t246 == t257 && (t247 == t258 && (t248 == t259 && (t249 == t260 && (t250 == t261 && (t251 == t262))))))))) = false := by simpa using c25
       (try (have c25b1 : decide (t243 = t254 && (t244 == t255 && (t245 == t256 && (t246 == t257 && (t247 == t258 && (t248 == t259 && (t249 == t260 && (t250 == t261 && (t251 == t262))))))))) = false := by simpa using c25))
       (try (have c25b2 : (t243 == t254 && (t244 == t255 && (t245 == t256 && (t246 == t257 && (t247 == t258 && (t248 == t259 && (t249 == t260 && (t250 == t261 && (t251 == t262))))))))) = false := by simpa using c25))
       (try (have c25b3 : ¬ (t243 = t254 && (t244 == t255 && (t245 == t256 && (t246 == t257 && (t247 == t258 && (t248 == t259 && (t249 == t260 && (t250 == t261 && (t251 == t262))))))))) := by simpa using c25))
       clear c25
       exact absurd ((Option.some.inj H).trans hr_.out) (by decide)
     ·rw [if_neg c24] at H
      have c24b0 : (t238 == t242) = false := by simpa using c24
      (try (have c24b1 : decide (t238 = t242) = false := by simpa using c24))
      (try (have c24b2 : (t238 == t242) = false := by simpa using c24))
      (try (have c24b3 : ¬ (t238 = t242) := by simpa using c24))
      clear c24
      exact absurd ((Option.some.inj H).trans hr_.out) (by decide)
    ·rw [if_neg c23] at H
     have c23b0 : ((strOfNums t235).toList == (strOfNums t239).toList) = false := beq_eq_false_iff_ne.mpr c23
     have c23b1 : ((strOfNums t235).toList != (strOfNums t239).toList) = true := bne_iff_ne.mpr c23
     exact absurd ((Option.some.inj H).trans hr_.out) (by decide)

end Go.Proofs.Ytphfejboahcnhaa.P
