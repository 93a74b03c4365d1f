-- Laid by a program of this session (wip/pp.py), which calls the kit's print.
import Derived.Test.YtnhfgpffhgiejaaPx0
import Derived.Test.YtnhfgpffhgiejaaPx1
import Derived.Test.YtnhfgpffhgiejaaPx2
import Derived.Test.YtnhfgpffhgiejaaPx3
import Derived.Test.YtnhfgpffhgiejaaPx4
namespace Go.Proofs.Ytnhfgpffhgiejaa.P
open Go.RowKit Go.Proofs.YtnhfgpffhgiejaaW.PrintWords Go.Proofs.YtnhfgpffhgiejaaW.PrintLast Go.Proofs.YtnhfgpffhgiejaaW.PrintMore
attribute [local go_sem] max2_int min2_int max_two min_two max_three min_three max_four min_four   -- for this text's walks alone
set_option linter.unusedVariables false
set_option linter.unusedSimpArgs false

/-! ### pelicanlaw03_NumCat: function 7 -/
mutual
def pelicanlaw03_NumCat.j0 : Nat → List (S41) → List (S41) → Bool → Bool → Option (Bool)
  | 0, _, _, _, _ => none
  | k + 1, x0, x1, x5, x31 => if x31 = true then (some x5) else (if ([] : List (S41)).length + x0.length < 8796093022208 then ((some (([] : List (S41)) ++ x0 : List (S41))).bind fun y237 => (if y237.length + x1.length < 8796093022208 then ((some (y237 ++ x1 : List (S41))).bind fun y240 => ((num_Cat.f k x0).bind fun bt243 => ((num_Cat.f k x1).bind fun bt247 => ((num_Cat.f k y240).bind fun bt251 => (if bt243.2 = true then (if (bt251.2 != bt247.2) = true then (pelicanlaw03_NumCat.j1 k y240 bt251.1 bt251.2 true) else (if bt251.2 = true then (if (strOfNums bt243.1).size + (strOfNums bt247.1).size ≤ 9223372036854775807 then (pelicanlaw03_NumCat.j1 k y240 bt251.1 bt251.2 ((strOfNums bt251.1).toList != ((strOfNums bt243.1) ++ (strOfNums bt247.1)).toList)) else (none)) else (pelicanlaw03_NumCat.j1 k y240 bt251.1 bt251.2 false))) else (if bt251.2 = true then (pelicanlaw03_NumCat.j1 k y240 bt251.1 bt251.2 true) else (pelicanlaw03_NumCat.j1 k y240 bt251.1 bt251.2 false))))))) else (none))) else (none))
def pelicanlaw03_NumCat.j1 : Nat → List (S41) → List Int → Bool → Bool → Option (Bool)
  | 0, _, _, _, _ => none
  | k + 1, x6, x11, x12, x70 => if x70 = true then (some false) else (if x12 = true then (pelicanlaw03_NumCat.l0 k x6 x11 ([] : List Int) ([] : List Int) 0) else (some true))
def pelicanlaw03_NumCat.l0 : Nat → List (S41) → List Int → List Int → List Int → Int → Option (Bool)
  | 0, _, _, _, _, _ => none
  | k + 1, x6, x11, x13, x14, x15 => if x15 < (x6.length : Int) then (if 0 ≤ x15 then (if x13.length < 17592186044416 then (if x14.length < 17592186044416 then (pelicanlaw03_NumCat.l0 k x6 x11 (x13 ++ [(rd_T41 x6 x15).f1]) (x14 ++ [(rd_T41 x6 x15).f0]) (wrap64 (x15 + 1))) else (none)) else (none)) else (none)) else ((num_Cut.f k x11 x13).bind fun bt263 => ((pelicanref03_Nums.f k bt263.1 x14).bind fun t267 => (if bt263.2 = true then (some t267) else (some false))))
end
def pelicanlaw03_NumCat.f (k : Nat) (l0 : List (S41)) (l1 : List (S41)) : Option (Bool) := (pelicanlaw03_awake.f).bind fun t236 => (if t236 = true then (if (l0.length : Int) > 20 then (pelicanlaw03_NumCat.j0 k l0 l1 t236 true) else (pelicanlaw03_NumCat.j0 k l0 l1 t236 (decide ((l1.length : Int) > 20)))) else (pelicanlaw03_NumCat.j0 k l0 l1 t236 true))
theorem pelicanlaw03_NumCat.mono_l : ∀ k, (∀ y0 y1 y2 y3, LeO (pelicanlaw03_NumCat.j0 k y0 y1 y2 y3) (pelicanlaw03_NumCat.j0 (k + 1) y0 y1 y2 y3)) ∧ (∀ y0 y1 y2 y3, LeO (pelicanlaw03_NumCat.j1 k y0 y1 y2 y3) (pelicanlaw03_NumCat.j1 (k + 1) y0 y1 y2 y3)) ∧ (∀ y0 y1 y2 y3 y4, LeO (pelicanlaw03_NumCat.l0 k y0 y1 y2 y3 y4) (pelicanlaw03_NumCat.l0 (k + 1) y0 y1 y2 y3 y4))
  | 0 => ⟨fun _ _ _ _ r h => by simp [pelicanlaw03_NumCat.j0] at h, fun _ _ _ _ r h => by simp [pelicanlaw03_NumCat.j1] at h, fun _ _ _ _ _ r h => by simp [pelicanlaw03_NumCat.l0] at h⟩
  | k + 1 => by
    obtain ⟨ih0, ih1, ih2⟩ := pelicanlaw03_NumCat.mono_l k
    refine ⟨?_, ?_, ?_⟩
    · intro y0 y1 y2 y3
      unfold pelicanlaw03_NumCat.j0
      repeat' first
      | (with_reducible exact ih0 _ _ _ _)
      | (with_reducible exact ih1 _ _ _ _)
      | (with_reducible exact ih2 _ _ _ _ _)
      | (with_reducible exact num_Cat.mono _ _)
      | (with_reducible exact num_Cut.mono _ _ _)
      | (with_reducible exact pelicanref03_Nums.mono _ _ _)
      | (with_reducible exact LeO.refl _)
      | (with_reducible exact LeO.none _)
      | (with_reducible refine LeO.ite ?_ ?_)
      | (with_reducible refine LeO.bind ?_ (fun _ => ?_))
      | exact ih0 _ _ _ _
      | exact ih1 _ _ _ _
      | exact ih2 _ _ _ _ _
      | exact num_Cat.mono _ _
      | exact num_Cut.mono _ _ _
      | exact pelicanref03_Nums.mono _ _ _
      | exact LeO.none _
      | refine LeO.ite ?_ ?_
      | refine LeO.bind ?_ (fun _ => ?_)
    · intro y0 y1 y2 y3
      unfold pelicanlaw03_NumCat.j1
      repeat' first
      | (with_reducible exact ih0 _ _ _ _)
      | (with_reducible exact ih1 _ _ _ _)
      | (with_reducible exact ih2 _ _ _ _ _)
      | (with_reducible exact num_Cat.mono _ _)
      | (with_reducible exact num_Cut.mono _ _ _)
      | (with_reducible exact pelicanref03_Nums.mono _ _ _)
      | (with_reducible exact LeO.refl _)
      | (with_reducible exact LeO.none _)
      | (with_reducible refine LeO.ite ?_ ?_)
      | (with_reducible refine LeO.bind ?_ (fun _ => ?_))
      | exact ih0 _ _ _ _
      | exact ih1 _ _ _ _
      | exact ih2 _ _ _ _ _
      | exact num_Cat.mono _ _
      | exact num_Cut.mono _ _ _
      | exact pelicanref03_Nums.mono _ _ _
      | exact LeO.none _
      | refine LeO.ite ?_ ?_
      | refine LeO.bind ?_ (fun _ => ?_)
    · intro y0 y1 y2 y3 y4
      unfold pelicanlaw03_NumCat.l0
      repeat' first
      | (with_reducible exact ih0 _ _ _ _)
      | (with_reducible exact ih1 _ _ _ _)
      | (with_reducible exact ih2 _ _ _ _ _)
      | (with_reducible exact num_Cat.mono _ _)
      | (with_reducible exact num_Cut.mono _ _ _)
      | (with_reducible exact pelicanref03_Nums.mono _ _ _)
      | (with_reducible exact LeO.refl _)
      | (with_reducible exact LeO.none _)
      | (with_reducible refine LeO.ite ?_ ?_)
      | (with_reducible refine LeO.bind ?_ (fun _ => ?_))
      | exact ih0 _ _ _ _
      | exact ih1 _ _ _ _
      | exact ih2 _ _ _ _ _
      | exact num_Cat.mono _ _
      | exact num_Cut.mono _ _ _
      | exact pelicanref03_Nums.mono _ _ _
      | exact LeO.none _
      | refine LeO.ite ?_ ?_
      | refine LeO.bind ?_ (fun _ => ?_)
theorem pelicanlaw03_NumCat.mono : ∀ a0 a1 k, LeO (pelicanlaw03_NumCat.f k a0 a1) (pelicanlaw03_NumCat.f (k + 1) a0 a1) := by
  intro a0 a1 k
  obtain ⟨ih0, ih1, ih2⟩ := pelicanlaw03_NumCat.mono_l k
  unfold pelicanlaw03_NumCat.f
  repeat' first
      | (with_reducible exact ih0 _ _ _ _)
      | (with_reducible exact ih1 _ _ _ _)
      | (with_reducible exact ih2 _ _ _ _ _)
      | (with_reducible exact num_Cat.mono _ _)
      | (with_reducible exact num_Cut.mono _ _ _)
      | (with_reducible exact pelicanref03_Nums.mono _ _ _)
      | (with_reducible exact LeO.refl _)
      | (with_reducible exact LeO.none _)
      | (with_reducible refine LeO.ite ?_ ?_)
      | (with_reducible refine LeO.bind ?_ (fun _ => ?_))
      | exact ih0 _ _ _ _
      | exact ih1 _ _ _ _
      | exact ih2 _ _ _ _ _
      | exact num_Cat.mono _ _
      | exact num_Cut.mono _ _ _
      | exact pelicanref03_Nums.mono _ _ _
      | exact LeO.none _
      | refine LeO.ite ?_ ?_
      | refine LeO.bind ?_ (fun _ => ?_)
set_option maxHeartbeats 8000000 in
set_option maxRecDepth 100000 in
theorem pelicanlaw03_NumCat.calls (k : Nat) (A0 : Option Addr) (c0 : Nat) (l0 : List (S41)) (A1 : Option Addr) (c1 : Nat) (l1 : List (S41)) (r : Bool) (w : World) (hr0 : Kd.C k41 w A0 l0.length l0) (hc0 : l0.length ≤ c0) (hr1 : Kd.C k41 w A1 l1.length l1) (hc1 : l1.length ≤ c1) (h : pelicanlaw03_NumCat.f k l0 l1 = some r) :
    Calls Try.prog 7 #[.slice A0 l0.length c0, .slice A1 l1.length c1] w fun e w' => e = .returned (.bool r) ∧ Below w.heap.size w w' := by
  have HR0 := Aside0.mk hr0
  have HC0 := Aside0.mk hc0
  clear hr0 hc0
  have HR1 := Aside0.mk hr1
  have HC1 := Aside0.mk hc1
  clear hr1 hc1
  have HB := Aside0.mk (Below.refl w.heap.size w)
  have H : ((pelicanlaw03_awake.f).bind fun t236 => (if t236 = true then (if (l0.length : Int) > 20 then (pelicanlaw03_NumCat.j0 k l0 l1 t236 true) else (pelicanlaw03_NumCat.j0 k l0 l1 t236 (decide ((l1.length : Int) > 20)))) else (pelicanlaw03_NumCat.j0 k l0 l1 t236 true))) = some r := h
  clear h
  replace H := Option.bind_eq_some_iff.mp H
  obtain ⟨t236, A30, H⟩ := H
  replace H : (if t236 = true then (if (l0.length : Int) > 20 then (pelicanlaw03_NumCat.j0 k l0 l1 t236 true) else (pelicanlaw03_NumCat.j0 k l0 l1 t236 (decide ((l1.length : Int) > 20)))) else (pelicanlaw03_NumCat.j0 k l0 l1 t236 true)) = some r := H
  have A3 := Aside0.mk A30
  clear A30
  have HC4 := Aside0.mk H
  clear H
  go_enter Try.func7, Try.ntmps7
  go_upto_region 2 with (first | ((with_reducible refine gate_callee (f := 9) rfl ?_); refine goesL_ (some 19) rfl rfl Try.func9 (by kernel_rfl) rfl #[] rfl (by (try simp only [List.map_toArray, List.map_cons, List.map_nil]); first | done | rfl | (simp only [List.length_drop, List.length_take]; rfl)) ?_; (with_reducible refine (pelicanlaw03_awake.calls  t236 _ A3.out).mono ?_); rintro e w5 ⟨rfl, hb⟩; refine ⟨_, rfl, ?_⟩; have n0_ := Aside0.mk (below_step (by repeat (first | (with_reducible first | exact HB.out | apply below_alloc | apply pw_below_drewN | apply below_drew1) | exact HB.out)) hb); clear HB; have HB := n0_; clear n0_; (try clear hb); (try clear hb2); (try clear hk); (try clear hi)))
  (try simp only [Act.put, List.setIfInBounds_toArray, List.set_cons_zero, List.set_cons_succ])
  go_cut [31] (fun v31 wc => ∃ (kq : Nat) (x31_3 : Bool), v31 = .bool x31_3 ∧ Aside0 (pelicanlaw03_NumCat.j0 kq l0 l1 t236 x31_3 = some r) ∧ Aside0 (kq ≤ k) ∧ Aside0 (Below w.heap.size w wc))
  case first =>
    have H := HC4.out
    clear HC4
    by_cases c6 : t236 = true
    · subst c6
      have H1 : (if (l0.length : Int) > 20 then (pelicanlaw03_NumCat.j0 k l0 l1 true true) else (pelicanlaw03_NumCat.j0 k l0 l1 true (decide ((l1.length : Int) > 20)))) = some r := by rw [if_pos rfl] at H; exact H
      clear H
      have H := H1
      clear H1
      by_cases c7 : (l0.length : Int) > 20
      · rw [if_pos c7] at H
        have c7b0 : decide (20 < (l0.length : Int)) = true := decide_eq_true c7
        have c7b1 : decide (20 < l0.length) = true := decide_eq_true (by omega)
        clear c7
        (first | rw [c7b0] | (simp only [i64_w, i32_w]; rw [c7b0]) | skip)
        have H' := Aside0.mk H
        clear H
        go_wp2
        go_meet
        case rel => exact ⟨_, (true), (by first | rfl | (simp; done) | (simp [*]; done)), H', ⟨by first | omega | exact Nat.le_refl _⟩, ⟨by repeat (first | (with_reducible first | exact HB.out | apply below_alloc | apply pw_below_drewN | apply below_drew1) | exact HB.out)⟩⟩
      · rw [if_neg c7] at H
        have c7b0 : decide (20 < (l0.length : Int)) = false := decide_eq_false c7
        have c7b1 : decide (20 < l0.length) = false := decide_eq_false (by omega)
        clear c7
        (first | rw [c7b0] | (simp only [i64_w, i32_w]; rw [c7b0]) | skip)
        have H' := Aside0.mk H
        clear H
        go_wp2
        go_meet
        case rel => exact ⟨_, (decide ((l1.length : Int) > 20)), (by first | rfl | (simp; done) | (simp [*]; done)), H', ⟨by first | omega | exact Nat.le_refl _⟩, ⟨by repeat (first | (with_reducible first | exact HB.out | apply below_alloc | apply pw_below_drewN | apply below_drew1) | exact HB.out)⟩⟩
    · replace c6 := Bool.eq_false_iff.mpr c6
      subst c6
      have H1 : (pelicanlaw03_NumCat.j0 k l0 l1 false true) = some r := by rw [if_neg (show ¬ (false = true) by decide)] at H; exact H
      clear H
      have H := H1
      clear H1
      have H' := Aside0.mk H
      clear H
      go_wp2
      go_meet
      case rel => exact ⟨_, (true), (by first | rfl | (simp; done) | (simp [*]; done)), H', ⟨by first | omega | exact Nat.le_refl _⟩, ⟨by repeat (first | (with_reducible first | exact HB.out | apply below_alloc | apply pw_below_drewN | apply below_drew1) | exact HB.out)⟩⟩
  case rest =>
    clear HC4
    try clear c1
    try clear p2
    try clear c6
    try clear c7
    try clear c7b0
    try clear c7b1
    obtain ⟨kq, x31_3, rfl, HA, HJ3, HB⟩ := hcut
    cases kq with
    | zero => exact absurd HA.out (by simp [pelicanlaw03_NumCat.j0])
    | succ kj3 =>
      have H := HA.out
      clear HA
      simp only [pelicanlaw03_NumCat.j0] at H
      by_cases c8 : x31_3 = true
      · subst c8
        have H1 : (some t236) = some r := by rw [if_pos rfl] at H; exact H
        clear H
        have H := H1
        clear H1
        obtain rfl := Option.some.inj H
        go_wp2
        go_ret
        exact ⟨by first | rfl | (simp [errW_none, errW_some] <;> rfl) | (simp [*, errW_none, errW_some] <;> rfl), by repeat (first | (with_reducible first | exact HB.out | apply below_alloc | apply pw_below_drewN | apply below_drew1) | exact HB.out)⟩
      · replace c8 := Bool.eq_false_iff.mpr c8
        subst c8
        have H1 : (if ([] : List (S41)).length + l0.length < 8796093022208 then ((some (([] : List (S41)) ++ l0 : List (S41))).bind fun y237 => (if y237.length + l1.length < 8796093022208 then ((some (y237 ++ l1 : List (S41))).bind fun y240 => ((num_Cat.f kj3 l0).bind fun bt243 => ((num_Cat.f kj3 l1).bind fun bt247 => ((num_Cat.f kj3 y240).bind fun bt251 => (if bt243.2 = true then (if (bt251.2 != bt247.2) = true then (pelicanlaw03_NumCat.j1 kj3 y240 bt251.1 bt251.2 true) else (if bt251.2 = true then (if (strOfNums bt243.1).size + (strOfNums bt247.1).size ≤ 9223372036854775807 then (pelicanlaw03_NumCat.j1 kj3 y240 bt251.1 bt251.2 ((strOfNums bt251.1).toList != ((strOfNums bt243.1) ++ (strOfNums bt247.1)).toList)) else (none)) else (pelicanlaw03_NumCat.j1 kj3 y240 bt251.1 bt251.2 false))) else (if bt251.2 = true then (pelicanlaw03_NumCat.j1 kj3 y240 bt251.1 bt251.2 true) else (pelicanlaw03_NumCat.j1 kj3 y240 bt251.1 bt251.2 false))))))) else (none))) else (none)) = some r := by rw [if_neg (show ¬ (false = true) by decide)] at H; exact H
        clear H
        have H := H1
        clear H1
        by_cases c9 : ([] : List (S41)).length + l0.length < 8796093022208
        · rw [if_pos c9] at H
          have LMc9 := Aside0.mk c9
          clear c9
          obtain ⟨y237, hy237⟩ : ∃ y_ : List (S41), y_ = (([] : List (S41)) ++ l0) := ⟨_, rfl⟩
          replace H : (if y237.length + l1.length < 8796093022208 then ((some (y237 ++ l1 : List (S41))).bind fun y240 => ((num_Cat.f kj3 l0).bind fun bt243 => ((num_Cat.f kj3 l1).bind fun bt247 => ((num_Cat.f kj3 y240).bind fun bt251 => (if bt243.2 = true then (if (bt251.2 != bt247.2) = true then (pelicanlaw03_NumCat.j1 kj3 y240 bt251.1 bt251.2 true) else (if bt251.2 = true then (if (strOfNums bt243.1).size + (strOfNums bt247.1).size ≤ 9223372036854775807 then (pelicanlaw03_NumCat.j1 kj3 y240 bt251.1 bt251.2 ((strOfNums bt251.1).toList != ((strOfNums bt243.1) ++ (strOfNums bt247.1)).toList)) else (none)) else (pelicanlaw03_NumCat.j1 kj3 y240 bt251.1 bt251.2 false))) else (if bt251.2 = true then (pelicanlaw03_NumCat.j1 kj3 y240 bt251.1 bt251.2 true) else (pelicanlaw03_NumCat.j1 kj3 y240 bt251.1 bt251.2 false))))))) else (none)) = some r := by first | (rw [hy237]; with_reducible exact H) | (have H2_ := (Option.bind_some _ _).symm.trans H; rw [hy237]; with_reducible exact H2_) | (have H2_ := (Option.bind_some _ _).symm.trans H; with_reducible exact H2_) | with_reducible exact H | (rw [hy237]; exact H) | exact H
          have Ny237 := Aside0.mk hy237
          clear hy237
          by_cases c10 : y237.length + l1.length < 8796093022208
          · rw [if_pos c10] at H
            have LMc10 := Aside0.mk c10
            clear c10
            obtain ⟨y240, hy240⟩ : ∃ y_ : List (S41), y_ = (y237 ++ l1) := ⟨_, rfl⟩
            replace H : ((num_Cat.f kj3 l0).bind fun bt243 => ((num_Cat.f kj3 l1).bind fun bt247 => ((num_Cat.f kj3 y240).bind fun bt251 => (if bt243.2 = true then (if (bt251.2 != bt247.2) = true then (pelicanlaw03_NumCat.j1 kj3 y240 bt251.1 bt251.2 true) else (if bt251.2 = true then (if (strOfNums bt243.1).size + (strOfNums bt247.1).size ≤ 9223372036854775807 then (pelicanlaw03_NumCat.j1 kj3 y240 bt251.1 bt251.2 ((strOfNums bt251.1).toList != ((strOfNums bt243.1) ++ (strOfNums bt247.1)).toList)) else (none)) else (pelicanlaw03_NumCat.j1 kj3 y240 bt251.1 bt251.2 false))) else (if bt251.2 = true then (pelicanlaw03_NumCat.j1 kj3 y240 bt251.1 bt251.2 true) else (pelicanlaw03_NumCat.j1 kj3 y240 bt251.1 bt251.2 false)))))) = some r := by first | (rw [hy240]; with_reducible exact H) | (have H2_ := (Option.bind_some _ _).symm.trans H; rw [hy240]; with_reducible exact H2_) | (have H2_ := (Option.bind_some _ _).symm.trans H; with_reducible exact H2_) | with_reducible exact H | (rw [hy240]; exact H) | exact H
            have Ny240 := Aside0.mk hy240
            clear hy240
            replace H := Option.bind_eq_some_iff.mp H
            obtain ⟨⟨t243, t244⟩, A110, H⟩ := H
            replace H : ((num_Cat.f kj3 l1).bind fun bt247 => ((num_Cat.f kj3 y240).bind fun bt251 => (if t244 = true then (if (bt251.2 != bt247.2) = true then (pelicanlaw03_NumCat.j1 kj3 y240 bt251.1 bt251.2 true) else (if bt251.2 = true then (if (strOfNums t243).size + (strOfNums bt247.1).size ≤ 9223372036854775807 then (pelicanlaw03_NumCat.j1 kj3 y240 bt251.1 bt251.2 ((strOfNums bt251.1).toList != ((strOfNums t243) ++ (strOfNums bt247.1)).toList)) else (none)) else (pelicanlaw03_NumCat.j1 kj3 y240 bt251.1 bt251.2 false))) else (if bt251.2 = true then (pelicanlaw03_NumCat.j1 kj3 y240 bt251.1 bt251.2 true) else (pelicanlaw03_NumCat.j1 kj3 y240 bt251.1 bt251.2 false))))) = some r := H
            have A11 := Aside0.mk A110
            clear A110
            replace H := Option.bind_eq_some_iff.mp H
            obtain ⟨⟨t247, t248⟩, A120, H⟩ := H
            replace H : ((num_Cat.f kj3 y240).bind fun bt251 => (if t244 = true then (if (bt251.2 != t248) = true then (pelicanlaw03_NumCat.j1 kj3 y240 bt251.1 bt251.2 true) else (if bt251.2 = true then (if (strOfNums t243).size + (strOfNums t247).size ≤ 9223372036854775807 then (pelicanlaw03_NumCat.j1 kj3 y240 bt251.1 bt251.2 ((strOfNums bt251.1).toList != ((strOfNums t243) ++ (strOfNums t247)).toList)) else (none)) else (pelicanlaw03_NumCat.j1 kj3 y240 bt251.1 bt251.2 false))) else (if bt251.2 = true then (pelicanlaw03_NumCat.j1 kj3 y240 bt251.1 bt251.2 true) else (pelicanlaw03_NumCat.j1 kj3 y240 bt251.1 bt251.2 false)))) = some r := H
            have A12 := Aside0.mk A120
            clear A120
            replace H := Option.bind_eq_some_iff.mp H
            obtain ⟨⟨t251, t252⟩, A130, H⟩ := H
            replace H : (if t244 = true then (if (t252 != t248) = true then (pelicanlaw03_NumCat.j1 kj3 y240 t251 t252 true) else (if t252 = true then (if (strOfNums t243).size + (strOfNums t247).size ≤ 9223372036854775807 then (pelicanlaw03_NumCat.j1 kj3 y240 t251 t252 ((strOfNums t251).toList != ((strOfNums t243) ++ (strOfNums t247)).toList)) else (none)) else (pelicanlaw03_NumCat.j1 kj3 y240 t251 t252 false))) else (if t252 = true then (pelicanlaw03_NumCat.j1 kj3 y240 t251 t252 true) else (pelicanlaw03_NumCat.j1 kj3 y240 t251 t252 false))) = some r := H
            have A13 := Aside0.mk A130
            clear A130
            have HC14 := Aside0.mk H
            clear H
            go_upto_region 8 with (first | ((with_reducible refine gate_builtin (b := .append) (xs := #[.const (.slice none 0 0), .tmp 33]) rfl ?_); (try (refine gate_guard (by rfl) ?_; dsimp only)); at_builtin; refine Kd.R_append_rows k41 (w0 := w) w.heap.size rfl (.const (.slice none 0 0)) (.tmp 33) 32 41 (.agg #[(.int .u64 0), (.int .i64 0)]) 16 rfl Try.underlying32 info41 rfl (by decide) (by omega) (.slice none 0 0) ([] : List (S41)) l0 _ _ _ (fun _ => True) (fun _ => False) rfl rfl ?aO ?aR (fun _ _ h => h) (fun _ h => h.elim) ?aF ?aB ?aS ?aL ?_; (case aR => repeat (first | exact (Kd.C_below HR0.out HB.out) | (with_reducible refine Kd.C_alloc ?_ _) | (with_reducible refine Kd.C_drewN ?_ _) | (with_reducible refine Kd.C_drew ?_))); (case aB => exact (by repeat (first | (with_reducible first | exact HB.out | apply below_alloc | apply pw_below_drewN | apply below_drew1) | exact HB.out))); (case aF => exact (fun _ _ => trivial)); (case aO => exact ((Kd.R_nil _ _ _ _ (fun _ => True)))); (case aS => exact (below_size (by repeat (first | (with_reducible first | exact HB.out | apply below_alloc | apply pw_below_drewN | apply below_drew1) | exact HB.out)))); (case aL => have := LMc9.out; omega); intro v238 w15 ho hb hg hat; rw [← Ny237.out] at ho; have n0_ := Aside0.mk (hb); have n1_ := Aside0.mk (ho); clear HB; have HB := n0_; have HO239 := n1_; clear n0_ n1_; clear ho hb hg hat) | ((with_reducible refine gate_builtin (b := .append) (xs := #[.tmp 34, .tmp 35]) rfl ?_); (try (refine gate_guard (by rfl) ?_; dsimp only)); at_builtin; refine Kd.R_append_rows k41 (w0 := w) w.heap.size rfl (.tmp 34) (.tmp 35) 32 41 (.agg #[(.int .u64 0), (.int .i64 0)]) 16 rfl Try.underlying32 info41 rfl (by decide) (by omega) v238 y237 l1 _ _ _ (fun _ => True) (fun _ => False) rfl rfl ?aO ?aR (fun _ _ h => h) (fun _ h => h.elim) ?aF ?aB ?aS ?aL ?_; (case aR => repeat (first | exact (Kd.C_below HR1.out HB.out) | (with_reducible refine Kd.C_alloc ?_ _) | (with_reducible refine Kd.C_drewN ?_ _) | (with_reducible refine Kd.C_drew ?_))); (case aB => exact (by repeat (first | (with_reducible first | exact HB.out | apply below_alloc | apply pw_below_drewN | apply below_drew1) | exact HB.out))); (case aF => exact (fun _ _ => trivial)); (case aO => exact (by (with_reducible repeat (first | apply Kd.R_alloc | apply Kd.R_drewN | apply Kd.R_drew)); exact HO239.out)); (case aS => exact (below_size (by repeat (first | (with_reducible first | exact HB.out | apply below_alloc | apply pw_below_drewN | apply below_drew1) | exact HB.out)))); (case aL => have := LMc10.out; omega); intro v241 w16 ho hb hg hat; rw [← Ny240.out] at ho; have n0_ := Aside0.mk (hb); have n1_ := Aside0.mk (ho); clear HB; clear HO239; have HB := n0_; have HO242 := n1_; clear n0_ n1_; clear ho hb hg hat) | ((with_reducible refine gate_callee (f := 14) rfl ?_); refine goesL_ (some 39) rfl rfl Try.func14 (by kernel_rfl) rfl #[.slice A0 l0.length c0] rfl (by (try simp only [List.map_toArray, List.map_cons, List.map_nil]); first | done | rfl | (simp only [List.length_drop, List.length_take]; rfl)) ?_; (with_reducible refine (num_Cat.calls kj3 _ _ l0 t243 t244 _ ?side1 ?side2 A11.out).mono ?_); (case side1 => repeat (first | exact (Kd.C_below HR0.out HB.out) | (with_reducible refine Kd.C_alloc ?_ _) | (with_reducible refine Kd.C_drewN ?_ _) | (with_reducible refine Kd.C_drew ?_))); (case side2 => exact HC0.out); rintro e w17 ⟨v245, rfl, ho0, hb⟩; refine ⟨_, rfl, ?_⟩; have n0_ := Aside0.mk (Kd.R_below (by (with_reducible repeat (first | apply Kd.R_alloc | apply Kd.R_drewN | apply Kd.R_drew)); exact HO242.out) hb); have n1_ := Aside0.mk (Kd.R_lower ho0 (below_size (by repeat (first | (with_reducible first | exact HB.out | apply below_alloc | apply pw_below_drewN | apply below_drew1) | exact HB.out)))); have n2_ := Aside0.mk (below_step (by repeat (first | (with_reducible first | exact HB.out | apply below_alloc | apply pw_below_drewN | apply below_drew1) | exact HB.out)) hb); clear HO242; clear HB; have HO242 := n0_; have HO246 := n1_; have HB := n2_; clear n0_ n1_ n2_; (try clear hb); (try clear hb2); (try clear hk); (try clear hi); (try clear ho0)) | ((with_reducible refine gate_callee (f := 14) rfl ?_); refine goesL_ (some 44) rfl rfl Try.func14 (by kernel_rfl) rfl #[.slice A1 l1.length c1] rfl (by (try simp only [List.map_toArray, List.map_cons, List.map_nil]); first | done | rfl | (simp only [List.length_drop, List.length_take]; rfl)) ?_; (with_reducible refine (num_Cat.calls kj3 _ _ l1 t247 t248 _ ?side1 ?side2 A12.out).mono ?_); (case side1 => repeat (first | exact (Kd.C_below HR1.out HB.out) | (with_reducible refine Kd.C_alloc ?_ _) | (with_reducible refine Kd.C_drewN ?_ _) | (with_reducible refine Kd.C_drew ?_))); (case side2 => exact HC1.out); rintro e w18 ⟨v249, rfl, ho0, hb⟩; refine ⟨_, rfl, ?_⟩; have n0_ := Aside0.mk (Kd.R_below (by (with_reducible repeat (first | apply Kd.R_alloc | apply Kd.R_drewN | apply Kd.R_drew)); exact HO242.out) hb); have n1_ := Aside0.mk (Kd.R_elder' (by (with_reducible repeat (first | apply Kd.R_alloc | apply Kd.R_drewN | apply Kd.R_drew)); exact HO246.out) (Kd.R_base ho0) hb); have n2_ := Aside0.mk (Kd.R_lower (Kd.R_new' ho0 (Kd.R_lt (by (with_reducible repeat (first | apply Kd.R_alloc | apply Kd.R_drewN | apply Kd.R_drew)); exact HO246.out))) (below_size (by repeat (first | (with_reducible first | exact HB.out | apply below_alloc | apply pw_below_drewN | apply below_drew1) | exact HB.out)))); have n3_ := Aside0.mk (below_step (by repeat (first | (with_reducible first | exact HB.out | apply below_alloc | apply pw_below_drewN | apply below_drew1) | exact HB.out)) hb); clear HO242; clear HO246; clear HB; have HO242 := n0_; have HO246 := n1_; have HO250 := n2_; have HB := n3_; clear n0_ n1_ n2_ n3_; (try clear hb); (try clear hb2); (try clear hk); (try clear hi); (try clear ho0); obtain ⟨Ao19, co19, eo19⟩ := Kd.R_slice HO242.out; subst eo19) | ((with_reducible refine gate_callee (f := 14) rfl ?_); refine goesL_ (some 49) rfl rfl Try.func14 (by kernel_rfl) rfl #[.slice Ao19 y240.length co19] rfl (by (try simp only [List.map_toArray, List.map_cons, List.map_nil]); first | done | rfl | (simp only [List.length_drop, List.length_take]; rfl)) ?_; (with_reducible refine (num_Cat.calls kj3 _ _ y240 t251 t252 _ ?side1 ?side2 A13.out).mono ?_); (case side1 => repeat (first | exact (Kd.R_reads' HO242.out).2.2 | (with_reducible refine Kd.C_alloc ?_ _) | (with_reducible refine Kd.C_drewN ?_ _) | (with_reducible refine Kd.C_drew ?_))); (case side2 => exact (Kd.R_reads' HO242.out).2.1); rintro e w20 ⟨v253, rfl, ho0, hb⟩; refine ⟨_, rfl, ?_⟩; have n0_ := Aside0.mk (Kd.R_below (by (with_reducible repeat (first | apply Kd.R_alloc | apply Kd.R_drewN | apply Kd.R_drew)); exact HO242.out) hb); have n1_ := Aside0.mk (Kd.R_elder' (by (with_reducible repeat (first | apply Kd.R_alloc | apply Kd.R_drewN | apply Kd.R_drew)); exact HO246.out) (Kd.R_base ho0) hb); have n2_ := Aside0.mk (Kd.R_elder' (by (with_reducible repeat (first | apply Kd.R_alloc | apply Kd.R_drewN | apply Kd.R_drew)); exact HO250.out) (Kd.R_base ho0) hb); have n3_ := Aside0.mk (Kd.R_lower (Kd.R_new' (Kd.R_new' ho0 (Kd.R_lt (by (with_reducible repeat (first | apply Kd.R_alloc | apply Kd.R_drewN | apply Kd.R_drew)); exact HO246.out))) (Kd.R_lt (by (with_reducible repeat (first | apply Kd.R_alloc | apply Kd.R_drewN | apply Kd.R_drew)); exact HO250.out))) (below_size (by repeat (first | (with_reducible first | exact HB.out | apply below_alloc | apply pw_below_drewN | apply below_drew1) | exact HB.out)))); have n4_ := Aside0.mk (below_step (by repeat (first | (with_reducible first | exact HB.out | apply below_alloc | apply pw_below_drewN | apply below_drew1) | exact HB.out)) hb); clear HO242; clear HO246; clear HO250; clear HB; have HO242 := n0_; have HO246 := n1_; have HO250 := n2_; have HO254 := n3_; have HB := n4_; clear n0_ n1_ n2_ n3_ n4_; (try clear hb); (try clear hb2); (try clear hk); (try clear hi); (try clear ho0)))
            (try simp only [Act.put, List.setIfInBounds_toArray, List.set_cons_zero, List.set_cons_succ])
            go_cut [70] (fun v70 wc => ∃ (kq : Nat) (x70_13 : Bool), v70 = .bool x70_13 ∧ Aside0 (pelicanlaw03_NumCat.j1 kq y240 t251 t252 x70_13 = some r) ∧ Aside0 (kq ≤ kj3) ∧ Aside0 (Kd.R k41 41 wc w.heap.size (fun _ => True) (.slice Ao19 y240.length co19) y240) ∧ Aside0 (Kd.R (Kd.int .u8) 5 wc w.heap.size (fun _ => True) v253 t251) ∧ Aside0 (Below w.heap.size w wc))
            case first =>
              have H := HC14.out
              clear HC14
              by_cases c21 : t244 = true
              · subst c21
                have H1 : (if (t252 != t248) = true then (pelicanlaw03_NumCat.j1 kj3 y240 t251 t252 true) else (if t252 = true then (if (strOfNums t243).size + (strOfNums t247).size ≤ 9223372036854775807 then (pelicanlaw03_NumCat.j1 kj3 y240 t251 t252 ((strOfNums t251).toList != ((strOfNums t243) ++ (strOfNums t247)).toList)) else (none)) else (pelicanlaw03_NumCat.j1 kj3 y240 t251 t252 false))) = some r := by rw [if_pos rfl] at H; exact H
                clear H
                have H := H1
                clear H1
                by_cases c22 : (t252 != t248) = true
                · rw [if_pos c22] at H
                  have c22b0 : (t252 != t248) = true := c22
                  (try (have c22b1 : decide (t252 = t248) = false := by simpa using c22))
                  (try (have c22b2 : (t252 == t248) = false := by simpa using c22))
                  (try (have c22b3 : ¬ (t252 = t248) := by simpa using c22))
                  clear c22
                  (first | rw [c22b0] | (simp only [i64_w, i32_w]; rw [c22b0]) | skip)
                  have H' := Aside0.mk H
                  clear H
                  go_wp2
                  go_meet
                  case rel => exact ⟨_, (true), (by first | rfl | (simp; done) | (simp [*]; done)), H', ⟨by have := HJ3.out; first | omega | exact Nat.le_refl _⟩, ⟨by (with_reducible repeat (first | apply Kd.R_alloc | apply Kd.R_drewN | apply Kd.R_drew)); exact HO242.out⟩, ⟨by (with_reducible repeat (first | apply Kd.R_alloc | apply Kd.R_drewN | apply Kd.R_drew)); exact Kd.R_mono HO254.out (fun _ hk => trivial)⟩, ⟨by repeat (first | (with_reducible first | exact HB.out | apply below_alloc | apply pw_below_drewN | apply below_drew1) | exact HB.out)⟩⟩
                · rw [if_neg c22] at H
                  have c22b0 : (t252 != t248) = false := by simpa using c22
                  (try (have c22b1 : decide (t252 = t248) = true := by simpa using c22))
                  (try (have c22b2 : (t252 == t248) = true := by simpa using c22))
                  clear c22
                  (first | rw [c22b0] | (simp only [i64_w, i32_w]; rw [c22b0]) | skip)
                  by_cases c23 : t252 = true
                  · subst c23
                    have H1 : (if (strOfNums t243).size + (strOfNums t247).size ≤ 9223372036854775807 then (pelicanlaw03_NumCat.j1 kj3 y240 t251 true ((strOfNums t251).toList != ((strOfNums t243) ++ (strOfNums t247)).toList)) else (none)) = some r := by rw [if_pos rfl] at H; exact H
                    clear H
                    have H := H1
                    clear H1
                    by_cases c24 : (strOfNums t243).size + (strOfNums t247).size ≤ 9223372036854775807
                    · rw [if_pos c24] at H
                      have c24b0 := eq_true c24
                      have c24b1 : decide ((strOfNums t243).size + (strOfNums t247).size ≤ 9223372036854775807) = true := decide_eq_true c24
                      try have c24b2 : (9223372036854775807 < (strOfNums t243).size + (strOfNums t247).size) = False := eq_false (Nat.not_lt.2 c24)
                      have H' := Aside0.mk H
                      clear H
                      have hcv25 := own_string (P := Try.prog) Try.underlying23 Try.underlying5 Try.underlying9 (Kd.own_of_R HO254.out)
                      have hcv26 := fun n_ => own_string (P := Try.prog) Try.underlying23 Try.underlying5 Try.underlying9 (Kd.own_of_R (Kd.R_drewN HO254.out n_))
                      have hcv27 := own_string (P := Try.prog) Try.underlying23 Try.underlying5 Try.underlying9 (Kd.own_of_R HO246.out)
                      have hcv28 := fun n_ => own_string (P := Try.prog) Try.underlying23 Try.underlying5 Try.underlying9 (Kd.own_of_R (Kd.R_drewN HO246.out n_))
                      have hcv29 := own_string (P := Try.prog) Try.underlying23 Try.underlying5 Try.underlying9 (Kd.own_of_R HO250.out)
                      have hcv30 := fun n_ => own_string (P := Try.prog) Try.underlying23 Try.underlying5 Try.underlying9 (Kd.own_of_R (Kd.R_drewN HO250.out n_))
                      go_wp2
                      go_meet
                      case rel => exact ⟨_, (((strOfNums t251).toList != ((strOfNums t243) ++ (strOfNums t247)).toList)), (by first | rfl | (simp; done) | (simp [*]; done)), H', ⟨by have := HJ3.out; first | omega | exact Nat.le_refl _⟩, ⟨by (with_reducible repeat (first | apply Kd.R_alloc | apply Kd.R_drewN | apply Kd.R_drew)); exact HO242.out⟩, ⟨by (with_reducible repeat (first | apply Kd.R_alloc | apply Kd.R_drewN | apply Kd.R_drew)); exact Kd.R_mono HO254.out (fun _ hk => trivial)⟩, ⟨by repeat (first | (with_reducible first | exact HB.out | apply below_alloc | apply pw_below_drewN | apply below_drew1) | exact HB.out)⟩⟩
                    · rw [if_neg c24] at H
                      exact absurd H (by simp)
                  · replace c23 := Bool.eq_false_iff.mpr c23
                    subst c23
                    have H1 : (pelicanlaw03_NumCat.j1 kj3 y240 t251 false false) = some r := by rw [if_neg (show ¬ (false = true) by decide)] at H; exact H
                    clear H
                    have H := H1
                    clear H1
                    have H' := Aside0.mk H
                    clear H
                    go_wp2
                    go_meet
                    case rel => exact ⟨_, (false), (by first | rfl | (simp; done) | (simp [*]; done)), H', ⟨by have := HJ3.out; first | omega | exact Nat.le_refl _⟩, ⟨by (with_reducible repeat (first | apply Kd.R_alloc | apply Kd.R_drewN | apply Kd.R_drew)); exact HO242.out⟩, ⟨by (with_reducible repeat (first | apply Kd.R_alloc | apply Kd.R_drewN | apply Kd.R_drew)); exact Kd.R_mono HO254.out (fun _ hk => trivial)⟩, ⟨by repeat (first | (with_reducible first | exact HB.out | apply below_alloc | apply pw_below_drewN | apply below_drew1) | exact HB.out)⟩⟩
              · replace c21 := Bool.eq_false_iff.mpr c21
                subst c21
                have H1 : (if t252 = true then (pelicanlaw03_NumCat.j1 kj3 y240 t251 t252 true) else (pelicanlaw03_NumCat.j1 kj3 y240 t251 t252 false)) = some r := by rw [if_neg (show ¬ (false = true) by decide)] at H; exact H
                clear H
                have H := H1
                clear H1
                by_cases c31 : t252 = true
                · subst c31
                  have H1 : (pelicanlaw03_NumCat.j1 kj3 y240 t251 true true) = some r := by rw [if_pos rfl] at H; exact H
                  clear H
                  have H := H1
                  clear H1
                  have H' := Aside0.mk H
                  clear H
                  go_wp2
                  go_meet
                  case rel => exact ⟨_, (true), (by first | rfl | (simp; done) | (simp [*]; done)), H', ⟨by have := HJ3.out; first | omega | exact Nat.le_refl _⟩, ⟨by (with_reducible repeat (first | apply Kd.R_alloc | apply Kd.R_drewN | apply Kd.R_drew)); exact HO242.out⟩, ⟨by (with_reducible repeat (first | apply Kd.R_alloc | apply Kd.R_drewN | apply Kd.R_drew)); exact Kd.R_mono HO254.out (fun _ hk => trivial)⟩, ⟨by repeat (first | (with_reducible first | exact HB.out | apply below_alloc | apply pw_below_drewN | apply below_drew1) | exact HB.out)⟩⟩
                · replace c31 := Bool.eq_false_iff.mpr c31
                  subst c31
                  have H1 : (pelicanlaw03_NumCat.j1 kj3 y240 t251 false false) = some r := by rw [if_neg (show ¬ (false = true) by decide)] at H; exact H
                  clear H
                  have H := H1
                  clear H1
                  have H' := Aside0.mk H
                  clear H
                  go_wp2
                  go_meet
                  case rel => exact ⟨_, (false), (by first | rfl | (simp; done) | (simp [*]; done)), H', ⟨by have := HJ3.out; first | omega | exact Nat.le_refl _⟩, ⟨by (with_reducible repeat (first | apply Kd.R_alloc | apply Kd.R_drewN | apply Kd.R_drew)); exact HO242.out⟩, ⟨by (with_reducible repeat (first | apply Kd.R_alloc | apply Kd.R_drewN | apply Kd.R_drew)); exact Kd.R_mono HO254.out (fun _ hk => trivial)⟩, ⟨by repeat (first | (with_reducible first | exact HB.out | apply below_alloc | apply pw_below_drewN | apply below_drew1) | exact HB.out)⟩⟩
            case rest =>
              clear HC14
              try clear c1
              try clear c2
              try clear p2
              try clear hcv2
              try clear c3
              try clear hcv3
              try clear c6
              try clear c7
              try clear c7b0
              try clear c7b1
              try clear c8
              try clear c9
              try clear c10
              try clear c14
              try clear c21
              try clear c22
              try clear c22b0
              try clear c22b1
              try clear c22b2
              try clear c23
              try clear c24
              try clear c24b0
              try clear c24b1
              try clear c24b2
              try clear hcv25
              try clear hcv26
              try clear hcv27
              try clear hcv28
              try clear hcv29
              try clear hcv30
              try clear c31
              try clear p2
              obtain ⟨kq, x70_13, rfl, HA, HJ13, HO_6, HO_11, HB⟩ := hcut
              cases kq with
              | zero => exact absurd HA.out (by simp [pelicanlaw03_NumCat.j1])
              | succ kj13 =>
                have H := HA.out
                clear HA
                simp only [pelicanlaw03_NumCat.j1] at H
                by_cases c32 : x70_13 = true
                · subst c32
                  have H1 : (some false) = some r := by rw [if_pos rfl] at H; exact H
                  clear H
                  have H := H1
                  clear H1
                  obtain rfl := Option.some.inj H
                  go_wp2
                  go_ret
                  exact ⟨by first | rfl | (simp [errW_none, errW_some] <;> rfl) | (simp [*, errW_none, errW_some] <;> rfl), by repeat (first | (with_reducible first | exact HB.out | apply below_alloc | apply pw_below_drewN | apply below_drew1) | exact HB.out)⟩
                · replace c32 := Bool.eq_false_iff.mpr c32
                  subst c32
                  have H1 : (if t252 = true then (pelicanlaw03_NumCat.l0 kj13 y240 t251 ([] : List Int) ([] : List Int) 0) else (some true)) = some r := by rw [if_neg (show ¬ (false = true) by decide)] at H; exact H
                  clear H
                  have H := H1
                  clear H1
                  by_cases c33 : t252 = true
                  · subst c33
                    have H1 : (pelicanlaw03_NumCat.l0 kj13 y240 t251 ([] : List Int) ([] : List Int) 0) = some r := by rw [if_pos rfl] at H; exact H
                    clear H
                    have H := H1
                    clear H1
                    have H' := Aside0.mk H
                    clear H
                    go_wp2
                    go_loopg [13, 14, 15] kj13 (fun kq v13 v14 v15 w' => ∃ (x13_3 : List Int) (x14_3 : List Int) (x15_3 : Int), v15 = .int .i64 x15_3 ∧ Aside0 (pelicanlaw03_NumCat.l0 kq y240 t251 x13_3 x14_3 x15_3 = some r) ∧ Aside0 (kq ≤ kj13) ∧ Aside0 (Kd.R k41 41 w' w.heap.size (fun _ => True) (.slice Ao19 y240.length co19) y240) ∧ Aside0 (Kd.R (Kd.int .u8) 5 w' w.heap.size (fun _ => True) v253 t251) ∧ Aside0 (Kd.R (Kd.int .i64) 3 w' w.heap.size (fun _ => True) v13 x13_3) ∧ Aside0 (Kd.R (Kd.int .u64) 22 w' w.heap.size (fun _ => True) v14 x14_3) ∧ Aside0 (Below w.heap.size w w'))
                    case atStart => exact ⟨(([] : List Int)), (([] : List Int)), (0), (by first | rfl | (simp; done) | (simp [*]; done)), H', ⟨Nat.le_refl _⟩, ⟨by (with_reducible repeat (first | apply Kd.R_alloc | apply Kd.R_drewN | apply Kd.R_drew)); exact HO_6.out⟩, ⟨by (with_reducible repeat (first | apply Kd.R_alloc | apply Kd.R_drewN | apply Kd.R_drew)); exact HO_11.out⟩, ⟨by first | exact Kd.R_nil _ _ _ _ _ | exact Kd.N_nil _ _ _ _ _ | exact Kd.V_nil _ _ _ _ _ | exact Kd.Q_nil _ _ _ _ _ | exact Kd.S_nil _ _ _ _ _⟩, ⟨by first | exact Kd.R_nil _ _ _ _ _ | exact Kd.N_nil _ _ _ _ _ | exact Kd.V_nil _ _ _ _ _ | exact Kd.Q_nil _ _ _ _ _ | exact Kd.S_nil _ _ _ _ _⟩, ⟨by repeat (first | (with_reducible first | exact HB.out | apply below_alloc | apply pw_below_drewN | apply below_drew1) | exact HB.out)⟩⟩
                    case round =>
                      clear H'
                      try clear c1
                      try clear c2
                      try clear p2
                      try clear hcv2
                      try clear c3
                      try clear hcv3
                      try clear c6
                      try clear c7
                      try clear c7b0
                      try clear c7b1
                      try clear c8
                      try clear c9
                      try clear c10
                      try clear c14
                      try clear c21
                      try clear c22
                      try clear c22b0
                      try clear c22b1
                      try clear c22b2
                      try clear c23
                      try clear c24
                      try clear c24b0
                      try clear c24b1
                      try clear c24b2
                      try clear hcv25
                      try clear hcv26
                      try clear hcv27
                      try clear hcv28
                      try clear hcv29
                      try clear hcv30
                      try clear c31
                      try clear c32
                      try clear c33
                      try clear p2
                      obtain ⟨x13_3, x14_3, x15_3, rfl, HA, HK3, HO_6, HO_11, HO_13, HO_14, HB⟩ := hrel
                      cases gk with
                      | zero => exact absurd HA.out (by simp [pelicanlaw03_NumCat.l0])
                      | succ k3 =>
                        have H := HA.out
                        clear HA
                        simp only [pelicanlaw03_NumCat.l0] at H
                        by_cases c34 : x15_3 < (y240.length : Int)
                        · rw [if_pos c34] at H
                          have c34b0 : decide (x15_3 < (y240.length : Int)) = true := decide_eq_true c34
                          clear c34
                          by_cases c35 : 0 ≤ x15_3
                          · rw [if_pos c35] at H
                            have c35b0 : decide (0 ≤ x15_3) = true := decide_eq_true c35
                            clear c35
                            by_cases c36 : x13_3.length < 17592186044416
                            · rw [if_pos c36] at H
                              have LMc36 := Aside0.mk c36
                              clear c36
                              obtain ⟨y256, hy256⟩ : ∃ y_ : List Int, y_ = (x13_3 ++ [(rd_T41 y240 x15_3).f1]) := ⟨_, rfl⟩
                              replace H : (if x14_3.length < 17592186044416 then (pelicanlaw03_NumCat.l0 k3 y240 t251 y256 (x14_3 ++ [(rd_T41 y240 x15_3).f0]) (wrap64 (x15_3 + 1))) else (none)) = some r := by first | (rw [hy256]; with_reducible exact H) | (have H2_ := (Option.bind_some _ _).symm.trans H; rw [hy256]; with_reducible exact H2_) | (have H2_ := (Option.bind_some _ _).symm.trans H; with_reducible exact H2_) | with_reducible exact H | (rw [hy256]; exact H) | exact H
                              have Ny256 := Aside0.mk hy256
                              clear hy256
                              by_cases c37 : x14_3.length < 17592186044416
                              · rw [if_pos c37] at H
                                have LMc37 := Aside0.mk c37
                                clear c37
                                obtain ⟨y260, hy260⟩ : ∃ y_ : List Int, y_ = (x14_3 ++ [(rd_T41 y240 x15_3).f0]) := ⟨_, rfl⟩
                                replace H : (pelicanlaw03_NumCat.l0 k3 y240 t251 y256 y260 (wrap64 (x15_3 + 1))) = some r := by first | (rw [hy260]; with_reducible exact H) | (have H2_ := (Option.bind_some _ _).symm.trans H; rw [hy260]; with_reducible exact H2_) | (have H2_ := (Option.bind_some _ _).symm.trans H; with_reducible exact H2_) | with_reducible exact H | (rw [hy260]; exact H) | exact H
                                have Ny260 := Aside0.mk hy260
                                clear hy260
                                have H' := Aside0.mk H
                                clear H
                                have p255 : 0 ≤ (x15_3 : Int) := of_decide_eq_true (by first | (with_reducible assumption) | assumption)
                                have q255 : x15_3 < (y240.length : Int) := of_decide_eq_true (by first | (with_reducible assumption) | assumption)
                                obtain ⟨ad255, e255, hx255_0, hx255_1⟩ := at_T41 (Kd.R_reads' HO_6.out).2.2 x15_3 p255 q255
                                cases e255
                                replace p255 := eq_true p255
                                replace q255 := eq_true q255
                                go_wp2_with (first | ((with_reducible refine gate_builtin (b := .append) (xs := #[.tmp 79, .tmp 85]) rfl ?_); (try (refine gate_guard (by rfl) ?_; dsimp only)); at_builtin; refine Kd.R_append (Kd.int .i64) (w0 := w) w.heap.size rfl (.tmp 79) (.tmp 85) 33 3 (.int .i64 0) 8 rfl Try.underlying33 info3 rfl (by decide) (by omega) u13 x13_3 ((rd_T41 y240 x15_3).f1) [.int .i64 ((rd_T41 y240 x15_3).f1)] (fun _ => True) (fun _ => False) rfl rfl ?aP (fun _ hk => hk.elim) ?aF ?aO ?aB ?aS ?aL ?_; (case aP => exact rfl); (case aB => exact (by repeat (first | (with_reducible first | exact HB.out | apply below_alloc | apply pw_below_drewN | apply below_drew1) | exact HB.out))); (case aF => exact (fun _ _ => trivial)); (case aO => exact (by (with_reducible repeat (first | apply Kd.R_alloc | apply Kd.R_drewN | apply Kd.R_drew)); exact HO_13.out)); (case aS => exact (below_size (by repeat (first | (with_reducible first | exact HB.out | apply below_alloc | apply pw_below_drewN | apply below_drew1) | exact HB.out)))); (case aL => have := LMc36.out; omega); intro v257 w38 ho hb hg hat; rw [← Ny256.out] at ho; have n0_ := Aside0.mk (Kd.R_over' (by (with_reducible repeat (first | apply Kd.R_alloc | apply Kd.R_drewN | apply Kd.R_drew)); exact HO_6.out) (Kd.R_typed (by (with_reducible repeat (first | apply Kd.R_alloc | apply Kd.R_drewN | apply Kd.R_drew)); exact HO_13.out)) (by decide) hg); have n1_ := Aside0.mk (Kd.R_over' (by (with_reducible repeat (first | apply Kd.R_alloc | apply Kd.R_drewN | apply Kd.R_drew)); exact HO_11.out) (Kd.R_typed (by (with_reducible repeat (first | apply Kd.R_alloc | apply Kd.R_drewN | apply Kd.R_drew)); exact HO_13.out)) (by decide) hg); have n2_ := Aside0.mk (Kd.R_over' (by (with_reducible repeat (first | apply Kd.R_alloc | apply Kd.R_drewN | apply Kd.R_drew)); exact HO_14.out) (Kd.R_typed (by (with_reducible repeat (first | apply Kd.R_alloc | apply Kd.R_drewN | apply Kd.R_drew)); exact HO_13.out)) (by decide) hg); have n3_ := Aside0.mk (hb); have n4_ := Aside0.mk (ho); clear HO_6; clear HO_11; clear HO_14; clear HB; clear HO_13; have HO_6 := n0_; have HO_11 := n1_; have HO_14 := n2_; have HB := n3_; have HO258 := n4_; clear n0_ n1_ n2_ n3_ n4_; clear ho hb hg hat; have p259 : 0 ≤ (x15_3 : Int) := of_decide_eq_true (by first | (with_reducible assumption) | assumption); have q259 : x15_3 < (y240.length : Int) := of_decide_eq_true (by first | (with_reducible assumption) | assumption); obtain ⟨ad259, e259, hx259_0, hx259_1⟩ := at_T41 (Kd.R_reads' HO_6.out).2.2 x15_3 p259 q259; obtain rfl : ad255 = ad259 := (by injection e259); replace p259 := eq_true p259; replace q259 := eq_true q259) | ((with_reducible refine gate_builtin (b := .append) (xs := #[.tmp 87, .tmp 93]) rfl ?_); (try (refine gate_guard (by rfl) ?_; dsimp only)); at_builtin; refine Kd.R_append (Kd.int .u64) (w0 := w) w.heap.size rfl (.tmp 87) (.tmp 93) 35 22 (.int .u64 0) 8 rfl Try.underlying35 info22 rfl (by decide) (by omega) u14 x14_3 ((rd_T41 y240 x15_3).f0) [.int .u64 ((rd_T41 y240 x15_3).f0)] (fun _ => True) (fun _ => False) rfl rfl ?aP (fun _ hk => hk.elim) ?aF ?aO ?aB ?aS ?aL ?_; (case aP => exact rfl); (case aB => exact (by repeat (first | (with_reducible first | exact HB.out | apply below_alloc | apply pw_below_drewN | apply below_drew1) | exact HB.out))); (case aF => exact (fun _ _ => trivial)); (case aO => exact (by (with_reducible repeat (first | apply Kd.R_alloc | apply Kd.R_drewN | apply Kd.R_drew)); exact HO_14.out)); (case aS => exact (below_size (by repeat (first | (with_reducible first | exact HB.out | apply below_alloc | apply pw_below_drewN | apply below_drew1) | exact HB.out)))); (case aL => have := LMc37.out; omega); intro v261 w39 ho hb hg hat; rw [← Ny260.out] at ho; have n0_ := Aside0.mk (Kd.R_over' (by (with_reducible repeat (first | apply Kd.R_alloc | apply Kd.R_drewN | apply Kd.R_drew)); exact HO_6.out) (Kd.R_typed (by (with_reducible repeat (first | apply Kd.R_alloc | apply Kd.R_drewN | apply Kd.R_drew)); exact HO_14.out)) (by decide) hg); have n1_ := Aside0.mk (Kd.R_over' (by (with_reducible repeat (first | apply Kd.R_alloc | apply Kd.R_drewN | apply Kd.R_drew)); exact HO_11.out) (Kd.R_typed (by (with_reducible repeat (first | apply Kd.R_alloc | apply Kd.R_drewN | apply Kd.R_drew)); exact HO_14.out)) (by decide) hg); have n2_ := Aside0.mk (Kd.R_over' (by (with_reducible repeat (first | apply Kd.R_alloc | apply Kd.R_drewN | apply Kd.R_drew)); exact HO258.out) (Kd.R_typed (by (with_reducible repeat (first | apply Kd.R_alloc | apply Kd.R_drewN | apply Kd.R_drew)); exact HO_14.out)) (by decide) hg); have n3_ := Aside0.mk (hb); have n4_ := Aside0.mk (ho); clear HO_6; clear HO_11; clear HO258; clear HB; clear HO_14; have HO_6 := n0_; have HO_11 := n1_; have HO258 := n2_; have HB := n3_; have HO262 := n4_; clear n0_ n1_ n2_ n3_ n4_; clear ho hb hg hat))
                                go_roundg k3
                                case measure => have := HJ3.out; have := HJ13.out; have := HK3.out; omega
                                case rel => exact ⟨(y256), (y260), (wrap64 (x15_3 + 1)), (by first | rfl | (simp; done) | (simp [*]; done)), H', ⟨by have := HJ3.out; have := HJ13.out; have := HK3.out; omega⟩, ⟨by (with_reducible repeat (first | apply Kd.R_alloc | apply Kd.R_drewN | apply Kd.R_drew)); exact HO_6.out⟩, ⟨by (with_reducible repeat (first | apply Kd.R_alloc | apply Kd.R_drewN | apply Kd.R_drew)); exact HO_11.out⟩, ⟨by (with_reducible repeat (first | apply Kd.R_alloc | apply Kd.R_drewN | apply Kd.R_drew)); exact HO258.out⟩, ⟨by (with_reducible repeat (first | apply Kd.R_alloc | apply Kd.R_drewN | apply Kd.R_drew)); exact HO262.out⟩, ⟨by repeat (first | (with_reducible first | exact HB.out | apply below_alloc | apply pw_below_drewN | apply below_drew1) | exact HB.out)⟩⟩
                              · rw [if_neg c37] at H
                                exact absurd H (by simp)
                            · rw [if_neg c36] at H
                              exact absurd H (by simp)
                          · rw [if_neg c35] at H
                            exact absurd H (by simp)
                        · rw [if_neg c34] at H
                          have c34b0 : decide (x15_3 < (y240.length : Int)) = false := decide_eq_false c34
                          clear c34
                          replace H := Option.bind_eq_some_iff.mp H
                          obtain ⟨⟨t263, t264⟩, A400, H⟩ := H
                          replace H : ((pelicanref03_Nums.f k3 t263 x14_3).bind fun t267 => (if t264 = true then (some t267) else (some false))) = some r := H
                          have A40 := Aside0.mk A400
                          clear A400
                          replace H := Option.bind_eq_some_iff.mp H
                          obtain ⟨t267, A410, H⟩ := H
                          replace H : (if t264 = true then (some t267) else (some false)) = some r := H
                          have A41 := Aside0.mk A410
                          clear A410
                          by_cases c42 : t264 = true
                          · subst c42
                            have H1 : (some t267) = some r := by rw [if_pos rfl] at H; exact H
                            clear H
                            have H := H1
                            clear H1
                            obtain rfl := Option.some.inj H
                            obtain ⟨Ao43, co43, eo43⟩ := Kd.R_slice HO_11.out
                            subst eo43
                            obtain ⟨Ao44, co44, eo44⟩ := Kd.R_slice HO_13.out
                            subst eo44
                            go_wp2_with (first | ((with_reducible refine gate_callee (f := 16) rfl ?_); refine goesL_ (some 98) rfl rfl Try.func16 (by kernel_rfl) rfl #[.slice Ao43 t251.length co43, .slice Ao44 x13_3.length co44] rfl (by (try simp only [List.map_toArray, List.map_cons, List.map_nil]); first | done | rfl | (simp only [List.length_drop, List.length_take]; rfl)) ?_; (with_reducible refine (num_Cut.calls k3 _ _ t251 _ _ x13_3 t263 true _ ?side1 ?side2 ?side3 ?side4 A40.out).mono ?_); (case side1 => repeat (first | exact (Kd.R_reads' HO_11.out).2.2 | (with_reducible refine Kd.C_alloc ?_ _) | (with_reducible refine Kd.C_drewN ?_ _) | (with_reducible refine Kd.C_drew ?_))); (case side2 => exact (Kd.R_reads' HO_11.out).2.1); (case side3 => repeat (first | exact (Kd.R_reads' HO_13.out).2.2 | (with_reducible refine Kd.C_alloc ?_ _) | (with_reducible refine Kd.C_drewN ?_ _) | (with_reducible refine Kd.C_drew ?_))); (case side4 => exact (Kd.R_reads' HO_13.out).2.1); rintro e w45 ⟨v265, rfl, ho0, hb⟩; refine ⟨_, rfl, ?_⟩; have n0_ := Aside0.mk (Kd.R_below (by (with_reducible repeat (first | apply Kd.R_alloc | apply Kd.R_drewN | apply Kd.R_drew)); exact HO_6.out) hb); have n1_ := Aside0.mk (Kd.R_below (by (with_reducible repeat (first | apply Kd.R_alloc | apply Kd.R_drewN | apply Kd.R_drew)); exact HO_11.out) hb); have n2_ := Aside0.mk (Kd.R_below (by (with_reducible repeat (first | apply Kd.R_alloc | apply Kd.R_drewN | apply Kd.R_drew)); exact HO_13.out) hb); have n3_ := Aside0.mk (Kd.R_elder' (by (with_reducible repeat (first | apply Kd.R_alloc | apply Kd.R_drewN | apply Kd.R_drew)); exact HO_14.out) (Kd.R_base ho0) hb); have n4_ := Aside0.mk (Kd.R_lower (Kd.R_new' ho0 (Kd.R_lt (by (with_reducible repeat (first | apply Kd.R_alloc | apply Kd.R_drewN | apply Kd.R_drew)); exact HO_14.out))) (below_size (by repeat (first | (with_reducible first | exact HB.out | apply below_alloc | apply pw_below_drewN | apply below_drew1) | exact HB.out)))); have n5_ := Aside0.mk (below_step (by repeat (first | (with_reducible first | exact HB.out | apply below_alloc | apply pw_below_drewN | apply below_drew1) | exact HB.out)) hb); clear HO_6; clear HO_11; clear HO_13; clear HO_14; clear HB; have HO_6 := n0_; have HO_11 := n1_; have HO_13 := n2_; have HO_14 := n3_; have HO266 := n4_; have HB := n5_; clear n0_ n1_ n2_ n3_ n4_ n5_; (try clear hb); (try clear hb2); (try clear hk); (try clear hi); (try clear ho0); obtain ⟨Ao46, co46, eo46⟩ := Kd.R_slice HO266.out; subst eo46; obtain ⟨Ao47, co47, eo47⟩ := Kd.R_slice HO_14.out; subst eo47) | ((with_reducible refine gate_callee (f := 18) rfl ?_); refine goesL_ (some 103) rfl rfl Try.func18 (by kernel_rfl) rfl #[.slice Ao46 t263.length co46, .slice Ao47 x14_3.length co47] rfl (by (try simp only [List.map_toArray, List.map_cons, List.map_nil]); first | done | rfl | (simp only [List.length_drop, List.length_take]; rfl)) ?_; (with_reducible refine (pelicanref03_Nums.calls k3 _ _ t263 _ _ x14_3 t267 _ ?side1 ?side2 ?side3 ?side4 A41.out).mono ?_); (case side1 => repeat (first | exact (Kd.R_reads' HO266.out).2.2 | (with_reducible refine Kd.C_alloc ?_ _) | (with_reducible refine Kd.C_drewN ?_ _) | (with_reducible refine Kd.C_drew ?_))); (case side2 => exact (Kd.R_reads' HO266.out).2.1); (case side3 => repeat (first | exact (Kd.R_reads' HO_14.out).2.2 | (with_reducible refine Kd.C_alloc ?_ _) | (with_reducible refine Kd.C_drewN ?_ _) | (with_reducible refine Kd.C_drew ?_))); (case side4 => exact (Kd.R_reads' HO_14.out).2.1); rintro e w' ⟨rfl, ⟨nd, rfl⟩⟩; refine ⟨_, rfl, ?_⟩))
                            go_ret
                            exact ⟨by first | rfl | (simp [errW_none, errW_some] <;> rfl) | (simp [*, errW_none, errW_some] <;> rfl), by repeat (first | (with_reducible first | exact HB.out | apply below_alloc | apply pw_below_drewN | apply below_drew1) | exact HB.out)⟩
                          · replace c42 := Bool.eq_false_iff.mpr c42
                            subst c42
                            have H1 : (some false) = some r := by rw [if_neg (show ¬ (false = true) by decide)] at H; exact H
                            clear H
                            have H := H1
                            clear H1
                            obtain rfl := Option.some.inj H
                            obtain ⟨Ao48, co48, eo48⟩ := Kd.R_slice HO_11.out
                            subst eo48
                            obtain ⟨Ao49, co49, eo49⟩ := Kd.R_slice HO_13.out
                            subst eo49
                            go_wp2_with (first | ((with_reducible refine gate_callee (f := 16) rfl ?_); refine goesL_ (some 98) rfl rfl Try.func16 (by kernel_rfl) rfl #[.slice Ao48 t251.length co48, .slice Ao49 x13_3.length co49] rfl (by (try simp only [List.map_toArray, List.map_cons, List.map_nil]); first | done | rfl | (simp only [List.length_drop, List.length_take]; rfl)) ?_; (with_reducible refine (num_Cut.calls k3 _ _ t251 _ _ x13_3 t263 false _ ?side1 ?side2 ?side3 ?side4 A40.out).mono ?_); (case side1 => repeat (first | exact (Kd.R_reads' HO_11.out).2.2 | (with_reducible refine Kd.C_alloc ?_ _) | (with_reducible refine Kd.C_drewN ?_ _) | (with_reducible refine Kd.C_drew ?_))); (case side2 => exact (Kd.R_reads' HO_11.out).2.1); (case side3 => repeat (first | exact (Kd.R_reads' HO_13.out).2.2 | (with_reducible refine Kd.C_alloc ?_ _) | (with_reducible refine Kd.C_drewN ?_ _) | (with_reducible refine Kd.C_drew ?_))); (case side4 => exact (Kd.R_reads' HO_13.out).2.1); rintro e w50 ⟨v265, rfl, ho0, hb⟩; refine ⟨_, rfl, ?_⟩; have n0_ := Aside0.mk (Kd.R_below (by (with_reducible repeat (first | apply Kd.R_alloc | apply Kd.R_drewN | apply Kd.R_drew)); exact HO_6.out) hb); have n1_ := Aside0.mk (Kd.R_below (by (with_reducible repeat (first | apply Kd.R_alloc | apply Kd.R_drewN | apply Kd.R_drew)); exact HO_11.out) hb); have n2_ := Aside0.mk (Kd.R_below (by (with_reducible repeat (first | apply Kd.R_alloc | apply Kd.R_drewN | apply Kd.R_drew)); exact HO_13.out) hb); have n3_ := Aside0.mk (Kd.R_elder' (by (with_reducible repeat (first | apply Kd.R_alloc | apply Kd.R_drewN | apply Kd.R_drew)); exact HO_14.out) (Kd.R_base ho0) hb); have n4_ := Aside0.mk (Kd.R_lower (Kd.R_new' ho0 (Kd.R_lt (by (with_reducible repeat (first | apply Kd.R_alloc | apply Kd.R_drewN | apply Kd.R_drew)); exact HO_14.out))) (below_size (by repeat (first | (with_reducible first | exact HB.out | apply below_alloc | apply pw_below_drewN | apply below_drew1) | exact HB.out)))); have n5_ := Aside0.mk (below_step (by repeat (first | (with_reducible first | exact HB.out | apply below_alloc | apply pw_below_drewN | apply below_drew1) | exact HB.out)) hb); clear HO_6; clear HO_11; clear HO_13; clear HO_14; clear HB; have HO_6 := n0_; have HO_11 := n1_; have HO_13 := n2_; have HO_14 := n3_; have HO266 := n4_; have HB := n5_; clear n0_ n1_ n2_ n3_ n4_ n5_; (try clear hb); (try clear hb2); (try clear hk); (try clear hi); (try clear ho0); obtain ⟨Ao51, co51, eo51⟩ := Kd.R_slice HO266.out; subst eo51; obtain ⟨Ao52, co52, eo52⟩ := Kd.R_slice HO_14.out; subst eo52) | ((with_reducible refine gate_callee (f := 18) rfl ?_); refine goesL_ (some 103) rfl rfl Try.func18 (by kernel_rfl) rfl #[.slice Ao51 t263.length co51, .slice Ao52 x14_3.length co52] rfl (by (try simp only [List.map_toArray, List.map_cons, List.map_nil]); first | done | rfl | (simp only [List.length_drop, List.length_take]; rfl)) ?_; (with_reducible refine (pelicanref03_Nums.calls k3 _ _ t263 _ _ x14_3 t267 _ ?side1 ?side2 ?side3 ?side4 A41.out).mono ?_); (case side1 => repeat (first | exact (Kd.R_reads' HO266.out).2.2 | (with_reducible refine Kd.C_alloc ?_ _) | (with_reducible refine Kd.C_drewN ?_ _) | (with_reducible refine Kd.C_drew ?_))); (case side2 => exact (Kd.R_reads' HO266.out).2.1); (case side3 => repeat (first | exact (Kd.R_reads' HO_14.out).2.2 | (with_reducible refine Kd.C_alloc ?_ _) | (with_reducible refine Kd.C_drewN ?_ _) | (with_reducible refine Kd.C_drew ?_))); (case side4 => exact (Kd.R_reads' HO_14.out).2.1); rintro e w' ⟨rfl, ⟨nd, rfl⟩⟩; refine ⟨_, rfl, ?_⟩))
                            go_ret
                            exact ⟨by first | rfl | (simp [errW_none, errW_some] <;> rfl) | (simp [*, errW_none, errW_some] <;> rfl), by repeat (first | (with_reducible first | exact HB.out | apply below_alloc | apply pw_below_drewN | apply below_drew1) | exact HB.out)⟩
                  · replace c33 := Bool.eq_false_iff.mpr c33
                    subst c33
                    have H1 : (some true) = some r := by rw [if_neg (show ¬ (false = true) by decide)] at H; exact H
                    clear H
                    have H := H1
                    clear H1
                    obtain rfl := Option.some.inj H
                    go_wp2
                    go_ret
                    exact ⟨by first | rfl | (simp [errW_none, errW_some] <;> rfl) | (simp [*, errW_none, errW_some] <;> rfl), by repeat (first | (with_reducible first | exact HB.out | apply below_alloc | apply pw_below_drewN | apply below_drew1) | exact HB.out)⟩
          · rw [if_neg c10] at H
            exact absurd H (by simp)
        · rw [if_neg c9] at H
          exact absurd H (by simp)

end Go.Proofs.Ytnhfgpffhgiejaa.P
