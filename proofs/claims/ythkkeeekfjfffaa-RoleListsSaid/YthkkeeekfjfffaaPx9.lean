-- Laid by a program of this session (wip/pp.py), which calls the kit's print.
import Derived.Test.YthkkeeekfjfffaaPx0
import Derived.Test.YthkkeeekfjfffaaPx1
import Derived.Test.YthkkeeekfjfffaaPx3
import Derived.Test.YthkkeeekfjfffaaPx5
import Derived.Test.YthkkeeekfjfffaaHRole
namespace Go.Proofs.Ythkkeeekfjfffaa.P
open Go.RowKit Go.Proofs.YthkkeeekfjfffaaW.PrintWords Go.Proofs.YthkkeeekfjfffaaW.PrintLast Go.Proofs.YthkkeeekfjfffaaW.PrintMore
attribute [local go_sem] max2_int min2_int max_two min_two max_three min_three max_four min_four   -- for this text's walks alone
set_option linter.unusedVariables false
set_option linter.unusedSimpArgs false

/-! ### pelicanlaw07_RoleLess: function 6 -/
mutual
def pelicanlaw07_RoleLess.j0 : Nat → Int → Int → Bool → Option (Bool)
  | 0, _, _, _ => none
  | k + 1, x0, x1, x27 => if x27 = true then (some false) else (if x1 ≥ 0 then (pelicanlaw07_RoleLess.j1 k x0 x1 (decide (x1 < 8))) else (pelicanlaw07_RoleLess.j1 k x0 x1 false))
def pelicanlaw07_RoleLess.j1 : Nat → Int → Int → Bool → Option (Bool)
  | 0, _, _, _ => none
  | k + 1, x0, x1, x6 => (role_Is.f x0).bind fun t197 => (if t197 = true then ((role_May.f 0 x1).bind fun t198 => (if t198 = true then ((role_May.f x0 x1).bind fun t199 => (if t199 = true then ((role_May.f 2 x1).bind fun t200 => (if (t200 == x6) = true then ((role_Turns.f x1).bind fun t201 => (if t201 = true then (if x6 = true then ((role_May.f 1 x1).bind fun t202 => (if t202 = true then ((role_May.f 2 x1).bind fun t203 => (some t203)) else (some true))) else (some false)) else ((role_May.f 1 x1).bind fun t204 => (if t204 = true then ((role_May.f 2 x1).bind fun t205 => (some t205)) else (some true))))) else (some false))) else (some false))) else ((role_May.f 2 x1).bind fun t206 => (if (t206 == x6) = true then ((role_Turns.f x1).bind fun t207 => (if t207 = true then (if x6 = true then ((role_May.f 1 x1).bind fun t208 => (if t208 = true then ((role_May.f 2 x1).bind fun t209 => (some t209)) else (some true))) else (some false)) else ((role_May.f 1 x1).bind fun t210 => (if t210 = true then ((role_May.f 2 x1).bind fun t211 => (some t211)) else (some true))))) else (some false))))) else ((role_May.f 2 x1).bind fun t212 => (if (t212 == x6) = true then ((role_Turns.f x1).bind fun t213 => (if t213 = true then (if x6 = true then ((role_May.f 1 x1).bind fun t214 => (if t214 = true then ((role_May.f 2 x1).bind fun t215 => (some t215)) else (some true))) else (some false)) else ((role_May.f 1 x1).bind fun t216 => (if t216 = true then ((role_May.f 2 x1).bind fun t217 => (some t217)) else (some true))))) else (some false))))
end
def pelicanlaw07_RoleLess.f (k : Nat) (a0 : Int) (a1 : Int) : Option (Bool) := (pelicanlaw07_awake.f k).bind fun t190 => (if t190 = true then ((role_May.f 0 a1).bind fun t191 => (if t191 = true then ((role_Turns.f a1).bind fun t192 => (if t192 = true then (pelicanlaw07_RoleLess.j0 k a0 a1 true) else ((role_Is.f a0).bind fun t193 => (if t193 = true then (pelicanlaw07_RoleLess.j0 k a0 a1 false) else ((role_May.f a0 a1).bind fun t194 => (pelicanlaw07_RoleLess.j0 k a0 a1 t194)))))) else ((role_Is.f a0).bind fun t195 => (if t195 = true then (pelicanlaw07_RoleLess.j0 k a0 a1 false) else ((role_May.f a0 a1).bind fun t196 => (pelicanlaw07_RoleLess.j0 k a0 a1 t196)))))) else (pelicanlaw07_RoleLess.j0 k a0 a1 true))
theorem pelicanlaw07_RoleLess.mono_l : ∀ k, (∀ y0 y1 y2, LeO (pelicanlaw07_RoleLess.j0 k y0 y1 y2) (pelicanlaw07_RoleLess.j0 (k + 1) y0 y1 y2)) ∧ (∀ y0 y1 y2, LeO (pelicanlaw07_RoleLess.j1 k y0 y1 y2) (pelicanlaw07_RoleLess.j1 (k + 1) y0 y1 y2))
  | 0 => ⟨fun _ _ _ r h => by simp [pelicanlaw07_RoleLess.j0] at h, fun _ _ _ r h => by simp [pelicanlaw07_RoleLess.j1] at h⟩
  | k + 1 => by
    obtain ⟨ih0, ih1⟩ := pelicanlaw07_RoleLess.mono_l k
    refine ⟨?_, ?_⟩
    · intro y0 y1 y2
      unfold pelicanlaw07_RoleLess.j0
      repeat' first
      | (with_reducible exact ih0 _ _ _)
      | (with_reducible exact ih1 _ _ _)
      | (with_reducible exact pelicanlaw07_awake.mono _)
      | (with_reducible exact LeO.refl _)
      | (with_reducible exact LeO.none _)
      | (with_reducible refine LeO.ite ?_ ?_)
      | (with_reducible refine LeO.bind ?_ (fun _ => ?_))
      | exact ih0 _ _ _
      | exact ih1 _ _ _
      | exact pelicanlaw07_awake.mono _
      | exact LeO.none _
      | refine LeO.ite ?_ ?_
      | refine LeO.bind ?_ (fun _ => ?_)
    · intro y0 y1 y2
      unfold pelicanlaw07_RoleLess.j1
      repeat' first
      | (with_reducible exact ih0 _ _ _)
      | (with_reducible exact ih1 _ _ _)
      | (with_reducible exact pelicanlaw07_awake.mono _)
      | (with_reducible exact LeO.refl _)
      | (with_reducible exact LeO.none _)
      | (with_reducible refine LeO.ite ?_ ?_)
      | (with_reducible refine LeO.bind ?_ (fun _ => ?_))
      | exact ih0 _ _ _
      | exact ih1 _ _ _
      | exact pelicanlaw07_awake.mono _
      | exact LeO.none _
      | refine LeO.ite ?_ ?_
      | refine LeO.bind ?_ (fun _ => ?_)
theorem pelicanlaw07_RoleLess.mono : ∀ a0 a1 k, LeO (pelicanlaw07_RoleLess.f k a0 a1) (pelicanlaw07_RoleLess.f (k + 1) a0 a1) := by
  intro a0 a1 k
  obtain ⟨ih0, ih1⟩ := pelicanlaw07_RoleLess.mono_l k
  unfold pelicanlaw07_RoleLess.f
  repeat' first
      | (with_reducible exact ih0 _ _ _)
      | (with_reducible exact ih1 _ _ _)
      | (with_reducible exact pelicanlaw07_awake.mono _)
      | (with_reducible exact LeO.refl _)
      | (with_reducible exact LeO.none _)
      | (with_reducible refine LeO.ite ?_ ?_)
      | (with_reducible refine LeO.bind ?_ (fun _ => ?_))
      | exact ih0 _ _ _
      | exact ih1 _ _ _
      | exact pelicanlaw07_awake.mono _
      | exact LeO.none _
      | refine LeO.ite ?_ ?_
      | refine LeO.bind ?_ (fun _ => ?_)
set_option maxHeartbeats 8000000 in
set_option maxRecDepth 100000 in
theorem pelicanlaw07_RoleLess.calls (k : Nat) (a0 : Int) (a1 : Int) (r : Bool) (w : World) (h : pelicanlaw07_RoleLess.f k a0 a1 = some r) :
    Calls Try.prog 6 #[.int .i64 a0, .int .i64 a1] w fun e w' => e = .returned (.bool r) ∧ Below w.heap.size w w' := by
  have HB := Aside0.mk (Below.refl w.heap.size w)
  have H : ((pelicanlaw07_awake.f k).bind fun t190 => (if t190 = true then ((role_May.f 0 a1).bind fun t191 => (if t191 = true then ((role_Turns.f a1).bind fun t192 => (if t192 = true then (pelicanlaw07_RoleLess.j0 k a0 a1 true) else ((role_Is.f a0).bind fun t193 => (if t193 = true then (pelicanlaw07_RoleLess.j0 k a0 a1 false) else ((role_May.f a0 a1).bind fun t194 => (pelicanlaw07_RoleLess.j0 k a0 a1 t194)))))) else ((role_Is.f a0).bind fun t195 => (if t195 = true then (pelicanlaw07_RoleLess.j0 k a0 a1 false) else ((role_May.f a0 a1).bind fun t196 => (pelicanlaw07_RoleLess.j0 k a0 a1 t196)))))) else (pelicanlaw07_RoleLess.j0 k a0 a1 true))) = some r := h
  clear h
  replace H := Option.bind_eq_some_iff.mp H
  obtain ⟨t190, A30, H⟩ := H
  (try (have eA30 := Aside0.mk (Option.some.inj ((show Aside0 (_ = some _) by assumption).out.symm.trans A30))))
  replace H : (if t190 = true then ((role_May.f 0 a1).bind fun t191 => (if t191 = true then ((role_Turns.f a1).bind fun t192 => (if t192 = true then (pelicanlaw07_RoleLess.j0 k a0 a1 true) else ((role_Is.f a0).bind fun t193 => (if t193 = true then (pelicanlaw07_RoleLess.j0 k a0 a1 false) else ((role_May.f a0 a1).bind fun t194 => (pelicanlaw07_RoleLess.j0 k a0 a1 t194)))))) else ((role_Is.f a0).bind fun t195 => (if t195 = true then (pelicanlaw07_RoleLess.j0 k a0 a1 false) else ((role_May.f a0 a1).bind fun t196 => (pelicanlaw07_RoleLess.j0 k a0 a1 t196)))))) else (pelicanlaw07_RoleLess.j0 k a0 a1 true)) = some r := H
  have A3 := Aside0.mk A30
  clear A30
  have HC4 := Aside0.mk H
  clear H
  go_enter Try.func6, Try.ntmps6
  go_upto_region 2 with (first | ((with_reducible refine gate_callee (f := 8) rfl ?_); refine goesL_ (some 7) rfl rfl Try.func8 (by kernel_rfl) rfl #[] rfl (by (try simp only [List.map_toArray, List.map_cons, List.map_nil]); first | done | rfl | (simp only [List.length_drop, List.length_take]; rfl)) ?_; (with_reducible refine (pelicanlaw07_awake.calls k  t190 _ A3.out).mono ?_); rintro e w5 ⟨rfl, hb⟩; refine ⟨_, rfl, ?_⟩; have n0_ := Aside0.mk (below_step (by repeat (first | (with_reducible first | exact HB.out | apply below_alloc | apply pw_below_drewN | apply below_drew1) | exact HB.out)) hb); clear HB; have HB := n0_; clear n0_; (try clear hb); (try clear hb2); (try clear hk); (try clear hi)))
  (try simp only [Act.put, List.setIfInBounds_toArray, List.set_cons_zero, List.set_cons_succ])
  go_cut [27] (fun v27 wc => ∃ (kq : Nat) (x27_3 : Bool), v27 = .bool x27_3 ∧ Aside0 (pelicanlaw07_RoleLess.j0 kq a0 a1 x27_3 = some r) ∧ Aside0 (kq ≤ k) ∧ Aside0 (Below w.heap.size w wc))
  case first =>
    have H := HC4.out
    clear HC4
    by_cases c6 : t190 = true
    · subst c6
      have H1 : ((role_May.f 0 a1).bind fun t191 => (if t191 = true then ((role_Turns.f a1).bind fun t192 => (if t192 = true then (pelicanlaw07_RoleLess.j0 k a0 a1 true) else ((role_Is.f a0).bind fun t193 => (if t193 = true then (pelicanlaw07_RoleLess.j0 k a0 a1 false) else ((role_May.f a0 a1).bind fun t194 => (pelicanlaw07_RoleLess.j0 k a0 a1 t194)))))) else ((role_Is.f a0).bind fun t195 => (if t195 = true then (pelicanlaw07_RoleLess.j0 k a0 a1 false) else ((role_May.f a0 a1).bind fun t196 => (pelicanlaw07_RoleLess.j0 k a0 a1 t196)))))) = some r := by rw [if_pos rfl] at H; exact H
      clear H
      have H := H1
      clear H1
      replace H := Option.bind_eq_some_iff.mp H
      obtain ⟨t191, A70, H⟩ := H
      (try (have eA70 := Aside0.mk (Option.some.inj ((show Aside0 (_ = some _) by assumption).out.symm.trans A70))))
      replace H : (if t191 = true then ((role_Turns.f a1).bind fun t192 => (if t192 = true then (pelicanlaw07_RoleLess.j0 k a0 a1 true) else ((role_Is.f a0).bind fun t193 => (if t193 = true then (pelicanlaw07_RoleLess.j0 k a0 a1 false) else ((role_May.f a0 a1).bind fun t194 => (pelicanlaw07_RoleLess.j0 k a0 a1 t194)))))) else ((role_Is.f a0).bind fun t195 => (if t195 = true then (pelicanlaw07_RoleLess.j0 k a0 a1 false) else ((role_May.f a0 a1).bind fun t196 => (pelicanlaw07_RoleLess.j0 k a0 a1 t196))))) = some r := H
      have A7 := Aside0.mk A70
      clear A70
      by_cases c8 : t191 = true
      · subst c8
        have H1 : ((role_Turns.f a1).bind fun t192 => (if t192 = true then (pelicanlaw07_RoleLess.j0 k a0 a1 true) else ((role_Is.f a0).bind fun t193 => (if t193 = true then (pelicanlaw07_RoleLess.j0 k a0 a1 false) else ((role_May.f a0 a1).bind fun t194 => (pelicanlaw07_RoleLess.j0 k a0 a1 t194)))))) = some r := by rw [if_pos rfl] at H; exact H
        clear H
        have H := H1
        clear H1
        replace H := Option.bind_eq_some_iff.mp H
        obtain ⟨t192, A90, H⟩ := H
        (try (have eA90 := Aside0.mk (Option.some.inj ((show Aside0 (_ = some _) by assumption).out.symm.trans A90))))
        replace H : (if t192 = true then (pelicanlaw07_RoleLess.j0 k a0 a1 true) else ((role_Is.f a0).bind fun t193 => (if t193 = true then (pelicanlaw07_RoleLess.j0 k a0 a1 false) else ((role_May.f a0 a1).bind fun t194 => (pelicanlaw07_RoleLess.j0 k a0 a1 t194))))) = some r := H
        have A9 := Aside0.mk A90
        clear A90
        by_cases c10 : t192 = true
        · subst c10
          have H1 : (pelicanlaw07_RoleLess.j0 k a0 a1 true) = some r := by rw [if_pos rfl] at H; exact H
          clear H
          have H := H1
          clear H1
          have H' := Aside0.mk H
          clear H
          go_wp2_with (first | (go_at_call 18; (with_reducible refine (role_May.calls 0 a1 true _ A7.out).mono ?_); rintro e w11 ⟨rfl, hb⟩; have n0_ := Aside0.mk (below_step (by repeat (first | (with_reducible first | exact HB.out | apply below_alloc | apply pw_below_drewN | apply below_drew1) | exact HB.out)) hb); clear HB; have HB := n0_; clear n0_; (try clear hb); (try clear hb2); (try clear hk); (try clear hi)) | (go_at_call 19; (with_reducible refine (role_Turns.calls a1 true _ A9.out).mono ?_); rintro e w' ⟨rfl, ⟨nd, rfl⟩⟩))
          go_meet
          case rel => exact ⟨_, (true), (by first | rfl | (simp; done) | (simp [*]; done)), H', ⟨by first | omega | exact Nat.le_refl _⟩, ⟨by repeat (first | (with_reducible first | exact HB.out | apply below_alloc | apply pw_below_drewN | apply below_drew1) | exact HB.out)⟩⟩
        · replace c10 := Bool.eq_false_iff.mpr c10
          subst c10
          have H1 : ((role_Is.f a0).bind fun t193 => (if t193 = true then (pelicanlaw07_RoleLess.j0 k a0 a1 false) else ((role_May.f a0 a1).bind fun t194 => (pelicanlaw07_RoleLess.j0 k a0 a1 t194)))) = some r := by rw [if_neg (show ¬ (false = true) by decide)] at H; exact H
          clear H
          have H := H1
          clear H1
          replace H := Option.bind_eq_some_iff.mp H
          obtain ⟨t193, A120, H⟩ := H
          (try (have eA120 := Aside0.mk (Option.some.inj ((show Aside0 (_ = some _) by assumption).out.symm.trans A120))))
          replace H : (if t193 = true then (pelicanlaw07_RoleLess.j0 k a0 a1 false) else ((role_May.f a0 a1).bind fun t194 => (pelicanlaw07_RoleLess.j0 k a0 a1 t194))) = some r := H
          have A12 := Aside0.mk A120
          clear A120
          by_cases c13 : t193 = true
          · subst c13
            have H1 : (pelicanlaw07_RoleLess.j0 k a0 a1 false) = some r := by rw [if_pos rfl] at H; exact H
            clear H
            have H := H1
            clear H1
            have H' := Aside0.mk H
            clear H
            go_wp2_with (first | (go_at_call 18; (with_reducible refine (role_May.calls 0 a1 true _ A7.out).mono ?_); rintro e w14 ⟨rfl, hb⟩; have n0_ := Aside0.mk (below_step (by repeat (first | (with_reducible first | exact HB.out | apply below_alloc | apply pw_below_drewN | apply below_drew1) | exact HB.out)) hb); clear HB; have HB := n0_; clear n0_; (try clear hb); (try clear hb2); (try clear hk); (try clear hi)) | (go_at_call 19; (with_reducible refine (role_Turns.calls a1 false _ A9.out).mono ?_); rintro e w' ⟨rfl, ⟨nd, rfl⟩⟩) | (go_at_call 17; (with_reducible refine (role_Is.calls a0 true _ A12.out).mono ?_); rintro e w' ⟨rfl, ⟨nd, rfl⟩⟩))
            go_meet
            case rel => exact ⟨_, (false), (by first | rfl | (simp; done) | (simp [*]; done)), H', ⟨by first | omega | exact Nat.le_refl _⟩, ⟨by repeat (first | (with_reducible first | exact HB.out | apply below_alloc | apply pw_below_drewN | apply below_drew1) | exact HB.out)⟩⟩
          · replace c13 := Bool.eq_false_iff.mpr c13
            subst c13
            have H1 : ((role_May.f a0 a1).bind fun t194 => (pelicanlaw07_RoleLess.j0 k a0 a1 t194)) = some r := by rw [if_neg (show ¬ (false = true) by decide)] at H; exact H
            clear H
            have H := H1
            clear H1
            replace H := Option.bind_eq_some_iff.mp H
            obtain ⟨t194, A150, H⟩ := H
            (try (have eA150 := Aside0.mk (Option.some.inj ((show Aside0 (_ = some _) by assumption).out.symm.trans A150))))
            replace H : (pelicanlaw07_RoleLess.j0 k a0 a1 t194) = some r := H
            have A15 := Aside0.mk A150
            clear A150
            have H' := Aside0.mk H
            clear H
            go_wp2_with (first | (go_at_call 18; (with_reducible refine (role_May.calls 0 a1 true _ A7.out).mono ?_); rintro e w16 ⟨rfl, hb⟩; have n0_ := Aside0.mk (below_step (by repeat (first | (with_reducible first | exact HB.out | apply below_alloc | apply pw_below_drewN | apply below_drew1) | exact HB.out)) hb); clear HB; have HB := n0_; clear n0_; (try clear hb); (try clear hb2); (try clear hk); (try clear hi)) | (go_at_call 19; (with_reducible refine (role_Turns.calls a1 false _ A9.out).mono ?_); rintro e w' ⟨rfl, ⟨nd, rfl⟩⟩) | (go_at_call 17; (with_reducible refine (role_Is.calls a0 false _ A12.out).mono ?_); rintro e w' ⟨rfl, ⟨nd, rfl⟩⟩) | (go_at_call 18; (with_reducible refine (role_May.calls a0 a1 t194 _ A15.out).mono ?_); rintro e w17 ⟨rfl, hb⟩; have n0_ := Aside0.mk (below_step (by repeat (first | (with_reducible first | exact HB.out | apply below_alloc | apply pw_below_drewN | apply below_drew1) | exact HB.out)) hb); clear HB; have HB := n0_; clear n0_; (try clear hb); (try clear hb2); (try clear hk); (try clear hi)))
            go_meet
            case rel => exact ⟨_, (t194), (by first | rfl | (simp; done) | (simp [*]; done)), H', ⟨by first | omega | exact Nat.le_refl _⟩, ⟨by repeat (first | (with_reducible first | exact HB.out | apply below_alloc | apply pw_below_drewN | apply below_drew1) | exact HB.out)⟩⟩
      · replace c8 := Bool.eq_false_iff.mpr c8
        subst c8
        have H1 : ((role_Is.f a0).bind fun t195 => (if t195 = true then (pelicanlaw07_RoleLess.j0 k a0 a1 false) else ((role_May.f a0 a1).bind fun t196 => (pelicanlaw07_RoleLess.j0 k a0 a1 t196)))) = some r := by rw [if_neg (show ¬ (false = true) by decide)] at H; exact H
        clear H
        have H := H1
        clear H1
        replace H := Option.bind_eq_some_iff.mp H
        obtain ⟨t195, A180, H⟩ := H
        (try (have eA180 := Aside0.mk (Option.some.inj ((show Aside0 (_ = some _) by assumption).out.symm.trans A180))))
        replace H : (if t195 = true then (pelicanlaw07_RoleLess.j0 k a0 a1 false) else ((role_May.f a0 a1).bind fun t196 => (pelicanlaw07_RoleLess.j0 k a0 a1 t196))) = some r := H
        have A18 := Aside0.mk A180
        clear A180
        by_cases c19 : t195 = true
        · subst c19
          have H1 : (pelicanlaw07_RoleLess.j0 k a0 a1 false) = some r := by rw [if_pos rfl] at H; exact H
          clear H
          have H := H1
          clear H1
          have H' := Aside0.mk H
          clear H
          go_wp2_with (first | (go_at_call 18; (with_reducible refine (role_May.calls 0 a1 false _ A7.out).mono ?_); rintro e w20 ⟨rfl, hb⟩; have n0_ := Aside0.mk (below_step (by repeat (first | (with_reducible first | exact HB.out | apply below_alloc | apply pw_below_drewN | apply below_drew1) | exact HB.out)) hb); clear HB; have HB := n0_; clear n0_; (try clear hb); (try clear hb2); (try clear hk); (try clear hi)) | (go_at_call 17; (with_reducible refine (role_Is.calls a0 true _ A18.out).mono ?_); rintro e w' ⟨rfl, ⟨nd, rfl⟩⟩))
          go_meet
          case rel => exact ⟨_, (false), (by first | rfl | (simp; done) | (simp [*]; done)), H', ⟨by first | omega | exact Nat.le_refl _⟩, ⟨by repeat (first | (with_reducible first | exact HB.out | apply below_alloc | apply pw_below_drewN | apply below_drew1) | exact HB.out)⟩⟩
        · replace c19 := Bool.eq_false_iff.mpr c19
          subst c19
          have H1 : ((role_May.f a0 a1).bind fun t196 => (pelicanlaw07_RoleLess.j0 k a0 a1 t196)) = some r := by rw [if_neg (show ¬ (false = true) by decide)] at H; exact H
          clear H
          have H := H1
          clear H1
          replace H := Option.bind_eq_some_iff.mp H
          obtain ⟨t196, A210, H⟩ := H
          (try (have eA210 := Aside0.mk (Option.some.inj ((show Aside0 (_ = some _) by assumption).out.symm.trans A210))))
          replace H : (pelicanlaw07_RoleLess.j0 k a0 a1 t196) = some r := H
          have A21 := Aside0.mk A210
          clear A210
          have H' := Aside0.mk H
          clear H
          go_wp2_with (first | (go_at_call 18; (with_reducible refine (role_May.calls 0 a1 false _ A7.out).mono ?_); rintro e w22 ⟨rfl, hb⟩; have n0_ := Aside0.mk (below_step (by repeat (first | (with_reducible first | exact HB.out | apply below_alloc | apply pw_below_drewN | apply below_drew1) | exact HB.out)) hb); clear HB; have HB := n0_; clear n0_; (try clear hb); (try clear hb2); (try clear hk); (try clear hi)) | (go_at_call 17; (with_reducible refine (role_Is.calls a0 false _ A18.out).mono ?_); rintro e w' ⟨rfl, ⟨nd, rfl⟩⟩) | (go_at_call 18; (with_reducible refine (role_May.calls a0 a1 t196 _ A21.out).mono ?_); rintro e w23 ⟨rfl, hb⟩; have n0_ := Aside0.mk (below_step (by repeat (first | (with_reducible first | exact HB.out | apply below_alloc | apply pw_below_drewN | apply below_drew1) | exact HB.out)) hb); clear HB; have HB := n0_; clear n0_; (try clear hb); (try clear hb2); (try clear hk); (try clear hi)))
          go_meet
          case rel => exact ⟨_, (t196), (by first | rfl | (simp; done) | (simp [*]; done)), H', ⟨by first | omega | exact Nat.le_refl _⟩, ⟨by repeat (first | (with_reducible first | exact HB.out | apply below_alloc | apply pw_below_drewN | apply below_drew1) | exact HB.out)⟩⟩
    · replace c6 := Bool.eq_false_iff.mpr c6
      subst c6
      have H1 : (pelicanlaw07_RoleLess.j0 k a0 a1 true) = some r := by rw [if_neg (show ¬ (false = true) by decide)] at H; exact H
      clear H
      have H := H1
      clear H1
      have H' := Aside0.mk H
      clear H
      go_wp2
      go_meet
      case rel => exact ⟨_, (true), (by first | rfl | (simp; done) | (simp [*]; done)), H', ⟨by first | omega | exact Nat.le_refl _⟩, ⟨by repeat (first | (with_reducible first | exact HB.out | apply below_alloc | apply pw_below_drewN | apply below_drew1) | exact HB.out)⟩⟩
  case rest =>
    clear HC4
    try clear c1
    try clear p2
    try clear c6
    try clear c8
    try clear c10
    try clear c13
    try clear c19
    obtain ⟨kq, x27_3, rfl, HA, HJ3, HB⟩ := hcut
    cases kq with
    | zero => exact absurd HA.out (by simp [pelicanlaw07_RoleLess.j0])
    | succ kj3 =>
      have H := HA.out
      clear HA
      simp only [pelicanlaw07_RoleLess.j0] at H
      by_cases c24 : x27_3 = true
      · subst c24
        have H1 : (some false) = some r := by rw [if_pos rfl] at H; exact H
        clear H
        have H := H1
        clear H1
        obtain rfl := Option.some.inj H
        go_wp2
        go_ret
        (try (have e_ := eA30.out; subst e_))
        exact ⟨by first | rfl | (simp [errW_none, errW_some] <;> rfl) | (simp [*, errW_none, errW_some] <;> rfl), by repeat (first | (with_reducible first | exact HB.out | apply below_alloc | apply pw_below_drewN | apply below_drew1) | exact HB.out)⟩
      · replace c24 := Bool.eq_false_iff.mpr c24
        subst c24
        have H1 : (if a1 ≥ 0 then (pelicanlaw07_RoleLess.j1 kj3 a0 a1 (decide (a1 < 8))) else (pelicanlaw07_RoleLess.j1 kj3 a0 a1 false)) = some r := by rw [if_neg (show ¬ (false = true) by decide)] at H; exact H
        clear H
        have H := H1
        clear H1
        have HC25 := Aside0.mk H
        clear H
        go_upto_region 4 with (fail)
        go_cut [6] (fun v6 wc => ∃ (kq : Nat) (x6_24 : Bool), v6 = .bool x6_24 ∧ Aside0 (pelicanlaw07_RoleLess.j1 kq a0 a1 x6_24 = some r) ∧ Aside0 (kq ≤ kj3) ∧ Aside0 (Below w.heap.size w wc))
        case first =>
          have H := HC25.out
          clear HC25
          by_cases c26 : a1 ≥ 0
          · rw [if_pos c26] at H
            have c26b0 : decide (0 ≤ a1) = true := decide_eq_true c26
            clear c26
            (first | rw [c26b0] | (simp only [i64_w, i32_w]; rw [c26b0]) | skip)
            have H' := Aside0.mk H
            clear H
            go_wp2
            go_meet
            case rel => exact ⟨_, (decide (a1 < 8)), (by first | rfl | (simp; done) | (simp [*]; done)), H', ⟨by have := HJ3.out; first | omega | exact Nat.le_refl _⟩, ⟨by repeat (first | (with_reducible first | exact HB.out | apply below_alloc | apply pw_below_drewN | apply below_drew1) | exact HB.out)⟩⟩
          · rw [if_neg c26] at H
            have c26b0 : decide (0 ≤ a1) = false := decide_eq_false c26
            clear c26
            (first | rw [c26b0] | (simp only [i64_w, i32_w]; rw [c26b0]) | skip)
            have H' := Aside0.mk H
            clear H
            go_wp2
            go_meet
            case rel => exact ⟨_, (false), (by first | rfl | (simp; done) | (simp [*]; done)), H', ⟨by have := HJ3.out; first | omega | exact Nat.le_refl _⟩, ⟨by repeat (first | (with_reducible first | exact HB.out | apply below_alloc | apply pw_below_drewN | apply below_drew1) | exact HB.out)⟩⟩
        case rest =>
          clear HC25
          try clear c1
          try clear c2
          try clear p2
          try clear c6
          try clear c8
          try clear c10
          try clear c13
          try clear c19
          try clear c24
          try clear c26
          try clear c26b0
          try clear p2
          obtain ⟨kq, x6_24, rfl, HA, HJ24, HB⟩ := hcut
          cases kq with
          | zero => exact absurd HA.out (by simp [pelicanlaw07_RoleLess.j1])
          | succ kj24 =>
            have H := HA.out
            clear HA
            simp only [pelicanlaw07_RoleLess.j1] at H
            replace H := Option.bind_eq_some_iff.mp H
            obtain ⟨t197, A270, H⟩ := H
            (try (have eA270 := Aside0.mk (Option.some.inj ((show Aside0 (_ = some _) by assumption).out.symm.trans A270))))
            replace H : (if t197 = true then ((role_May.f 0 a1).bind fun t198 => (if t198 = true then ((role_May.f a0 a1).bind fun t199 => (if t199 = true then ((role_May.f 2 a1).bind fun t200 => (if (t200 == x6_24) = true then ((role_Turns.f a1).bind fun t201 => (if t201 = true then (if x6_24 = true then ((role_May.f 1 a1).bind fun t202 => (if t202 = true then ((role_May.f 2 a1).bind fun t203 => (some t203)) else (some true))) else (some false)) else ((role_May.f 1 a1).bind fun t204 => (if t204 = true then ((role_May.f 2 a1).bind fun t205 => (some t205)) else (some true))))) else (some false))) else (some false))) else ((role_May.f 2 a1).bind fun t206 => (if (t206 == x6_24) = true then ((role_Turns.f a1).bind fun t207 => (if t207 = true then (if x6_24 = true then ((role_May.f 1 a1).bind fun t208 => (if t208 = true then ((role_May.f 2 a1).bind fun t209 => (some t209)) else (some true))) else (some false)) else ((role_May.f 1 a1).bind fun t210 => (if t210 = true then ((role_May.f 2 a1).bind fun t211 => (some t211)) else (some true))))) else (some false))))) else ((role_May.f 2 a1).bind fun t212 => (if (t212 == x6_24) = true then ((role_Turns.f a1).bind fun t213 => (if t213 = true then (if x6_24 = true then ((role_May.f 1 a1).bind fun t214 => (if t214 = true then ((role_May.f 2 a1).bind fun t215 => (some t215)) else (some true))) else (some false)) else ((role_May.f 1 a1).bind fun t216 => (if t216 = true then ((role_May.f 2 a1).bind fun t217 => (some t217)) else (some true))))) else (some false)))) = some r := H
            have A27 := Aside0.mk A270
            clear A270
            by_cases c28 : t197 = true
            · subst c28
              have H1 : ((role_May.f 0 a1).bind fun t198 => (if t198 = true then ((role_May.f a0 a1).bind fun t199 => (if t199 = true then ((role_May.f 2 a1).bind fun t200 => (if (t200 == x6_24) = true then ((role_Turns.f a1).bind fun t201 => (if t201 = true then (if x6_24 = true then ((role_May.f 1 a1).bind fun t202 => (if t202 = true then ((role_May.f 2 a1).bind fun t203 => (some t203)) else (some true))) else (some false)) else ((role_May.f 1 a1).bind fun t204 => (if t204 = true then ((role_May.f 2 a1).bind fun t205 => (some t205)) else (some true))))) else (some false))) else (some false))) else ((role_May.f 2 a1).bind fun t206 => (if (t206 == x6_24) = true then ((role_Turns.f a1).bind fun t207 => (if t207 = true then (if x6_24 = true then ((role_May.f 1 a1).bind fun t208 => (if t208 = true then ((role_May.f 2 a1).bind fun t209 => (some t209)) else (some true))) else (some false)) else ((role_May.f 1 a1).bind fun t210 => (if t210 = true then ((role_May.f 2 a1).bind fun t211 => (some t211)) else (some true))))) else (some false))))) = some r := by rw [if_pos rfl] at H; exact H
              clear H
              have H := H1
              clear H1
              replace H := Option.bind_eq_some_iff.mp H
              obtain ⟨t198, A290, H⟩ := H
              (try (have eA290 := Aside0.mk (Option.some.inj ((show Aside0 (_ = some _) by assumption).out.symm.trans A290))))
              replace H : (if t198 = true then ((role_May.f a0 a1).bind fun t199 => (if t199 = true then ((role_May.f 2 a1).bind fun t200 => (if (t200 == x6_24) = true then ((role_Turns.f a1).bind fun t201 => (if t201 = true then (if x6_24 = true then ((role_May.f 1 a1).bind fun t202 => (if t202 = true then ((role_May.f 2 a1).bind fun t203 => (some t203)) else (some true))) else (some false)) else ((role_May.f 1 a1).bind fun t204 => (if t204 = true then ((role_May.f 2 a1).bind fun t205 => (some t205)) else (some true))))) else (some false))) else (some false))) else ((role_May.f 2 a1).bind fun t206 => (if (t206 == x6_24) = true then ((role_Turns.f a1).bind fun t207 => (if t207 = true then (if x6_24 = true then ((role_May.f 1 a1).bind fun t208 => (if t208 = true then ((role_May.f 2 a1).bind fun t209 => (some t209)) else (some true))) else (some false)) else ((role_May.f 1 a1).bind fun t210 => (if t210 = true then ((role_May.f 2 a1).bind fun t211 => (some t211)) else (some true))))) else (some false)))) = some r := H
              have A29 := Aside0.mk A290
              clear A290
              by_cases c30 : t198 = true
              · subst c30
                have H1 : ((role_May.f a0 a1).bind fun t199 => (if t199 = true then ((role_May.f 2 a1).bind fun t200 => (if (t200 == x6_24) = true then ((role_Turns.f a1).bind fun t201 => (if t201 = true then (if x6_24 = true then ((role_May.f 1 a1).bind fun t202 => (if t202 = true then ((role_May.f 2 a1).bind fun t203 => (some t203)) else (some true))) else (some false)) else ((role_May.f 1 a1).bind fun t204 => (if t204 = true then ((role_May.f 2 a1).bind fun t205 => (some t205)) else (some true))))) else (some false))) else (some false))) = some r := by rw [if_pos rfl] at H; exact H
                clear H
                have H := H1
                clear H1
                replace H := Option.bind_eq_some_iff.mp H
                obtain ⟨t199, A310, H⟩ := H
                (try (have eA310 := Aside0.mk (Option.some.inj ((show Aside0 (_ = some _) by assumption).out.symm.trans A310))))
                replace H : (if t199 = true then ((role_May.f 2 a1).bind fun t200 => (if (t200 == x6_24) = true then ((role_Turns.f a1).bind fun t201 => (if t201 = true then (if x6_24 = true then ((role_May.f 1 a1).bind fun t202 => (if t202 = true then ((role_May.f 2 a1).bind fun t203 => (some t203)) else (some true))) else (some false)) else ((role_May.f 1 a1).bind fun t204 => (if t204 = true then ((role_May.f 2 a1).bind fun t205 => (some t205)) else (some true))))) else (some false))) else (some false)) = some r := H
                have A31 := Aside0.mk A310
                clear A310
                by_cases c32 : t199 = true
                · subst c32
                  have H1 : ((role_May.f 2 a1).bind fun t200 => (if (t200 == x6_24) = true then ((role_Turns.f a1).bind fun t201 => (if t201 = true then (if x6_24 = true then ((role_May.f 1 a1).bind fun t202 => (if t202 = true then ((role_May.f 2 a1).bind fun t203 => (some t203)) else (some true))) else (some false)) else ((role_May.f 1 a1).bind fun t204 => (if t204 = true then ((role_May.f 2 a1).bind fun t205 => (some t205)) else (some true))))) else (some false))) = some r := by rw [if_pos rfl] at H; exact H
                  clear H
                  have H := H1
                  clear H1
                  replace H := Option.bind_eq_some_iff.mp H
                  obtain ⟨t200, A330, H⟩ := H
                  (try (have eA330 := Aside0.mk (Option.some.inj ((show Aside0 (_ = some _) by assumption).out.symm.trans A330))))
                  replace H : (if (t200 == x6_24) = true then ((role_Turns.f a1).bind fun t201 => (if t201 = true then (if x6_24 = true then ((role_May.f 1 a1).bind fun t202 => (if t202 = true then ((role_May.f 2 a1).bind fun t203 => (some t203)) else (some true))) else (some false)) else ((role_May.f 1 a1).bind fun t204 => (if t204 = true then ((role_May.f 2 a1).bind fun t205 => (some t205)) else (some true))))) else (some false)) = some r := H
                  have A33 := Aside0.mk A330
                  clear A330
                  by_cases c34 : (t200 == x6_24) = true
                  · rw [if_pos c34] at H
                    have c34b0 : (t200 == x6_24) = true := c34
                    (try (have c34b1 : decide (t200 = x6_24) = true := by simpa using c34))
                    (try (have c34b2 : (t200 == x6_24) = true := by simpa using c34))
                    clear c34
                    replace H := Option.bind_eq_some_iff.mp H
                    obtain ⟨t201, A350, H⟩ := H
                    (try (have eA350 := Aside0.mk (Option.some.inj ((show Aside0 (_ = some _) by assumption).out.symm.trans A350))))
                    replace H : (if t201 = true then (if x6_24 = true then ((role_May.f 1 a1).bind fun t202 => (if t202 = true then ((role_May.f 2 a1).bind fun t203 => (some t203)) else (some true))) else (some false)) else ((role_May.f 1 a1).bind fun t204 => (if t204 = true then ((role_May.f 2 a1).bind fun t205 => (some t205)) else (some true)))) = some r := H
                    have A35 := Aside0.mk A350
                    clear A350
                    by_cases c36 : t201 = true
                    · subst c36
                      have H1 : (if x6_24 = true then ((role_May.f 1 a1).bind fun t202 => (if t202 = true then ((role_May.f 2 a1).bind fun t203 => (some t203)) else (some true))) else (some false)) = some r := by rw [if_pos rfl] at H; exact H
                      clear H
                      have H := H1
                      clear H1
                      by_cases c37 : x6_24 = true
                      · subst c37
                        have H1 : ((role_May.f 1 a1).bind fun t202 => (if t202 = true then ((role_May.f 2 a1).bind fun t203 => (some t203)) else (some true))) = some r := by rw [if_pos rfl] at H; exact H
                        clear H
                        have H := H1
                        clear H1
                        replace H := Option.bind_eq_some_iff.mp H
                        obtain ⟨t202, A380, H⟩ := H
                        (try (have eA380 := Aside0.mk (Option.some.inj ((show Aside0 (_ = some _) by assumption).out.symm.trans A380))))
                        replace H : (if t202 = true then ((role_May.f 2 a1).bind fun t203 => (some t203)) else (some true)) = some r := H
                        have A38 := Aside0.mk A380
                        clear A380
                        by_cases c39 : t202 = true
                        · subst c39
                          have H1 : ((role_May.f 2 a1).bind fun t203 => (some t203)) = some r := by rw [if_pos rfl] at H; exact H
                          clear H
                          have H := H1
                          clear H1
                          replace H := Option.bind_eq_some_iff.mp H
                          obtain ⟨t203, A400, H⟩ := H
                          (try (have eA400 := Aside0.mk (Option.some.inj ((show Aside0 (_ = some _) by assumption).out.symm.trans A400))))
                          replace H : (some t203) = some r := H
                          have A40 := Aside0.mk A400
                          clear A400
                          obtain rfl := Option.some.inj H
                          go_wp2_with (first | ((with_reducible refine gate_callee (f := 17) rfl ?_); refine goesL_ (some 35) rfl rfl Try.func17 (by kernel_rfl) rfl #[.int .i64 a0] rfl (by (try simp only [List.map_toArray, List.map_cons, List.map_nil]); first | done | rfl | (simp only [List.length_drop, List.length_take]; rfl)) ?_; (with_reducible refine (role_Is.calls a0 true _ A27.out).mono ?_); rintro e w' ⟨rfl, ⟨nd, rfl⟩⟩; refine ⟨_, rfl, ?_⟩) | (go_at_call 18; (with_reducible refine (role_May.calls 0 a1 true _ A29.out).mono ?_); rintro e w41 ⟨rfl, hb⟩; have n0_ := Aside0.mk (below_step (by repeat (first | (with_reducible first | exact HB.out | apply below_alloc | apply pw_below_drewN | apply below_drew1) | exact HB.out)) hb); clear HB; have HB := n0_; clear n0_; (try clear hb); (try clear hb2); (try clear hk); (try clear hi)) | (go_at_call 18; (with_reducible refine (role_May.calls a0 a1 true _ A31.out).mono ?_); rintro e w42 ⟨rfl, hb⟩; have n0_ := Aside0.mk (below_step (by repeat (first | (with_reducible first | exact HB.out | apply below_alloc | apply pw_below_drewN | apply below_drew1) | exact HB.out)) hb); clear HB; have HB := n0_; clear n0_; (try clear hb); (try clear hb2); (try clear hk); (try clear hi)) | (go_at_call 18; (with_reducible refine (role_May.calls 2 a1 t200 _ A33.out).mono ?_); rintro e w43 ⟨rfl, hb⟩; have n0_ := Aside0.mk (below_step (by repeat (first | (with_reducible first | exact HB.out | apply below_alloc | apply pw_below_drewN | apply below_drew1) | exact HB.out)) hb); clear HB; have HB := n0_; clear n0_; (try clear hb); (try clear hb2); (try clear hk); (try clear hi)) | (go_at_call 19; (with_reducible refine (role_Turns.calls a1 true _ A35.out).mono ?_); rintro e w' ⟨rfl, ⟨nd, rfl⟩⟩) | (go_at_call 18; (with_reducible refine (role_May.calls 1 a1 true _ A38.out).mono ?_); rintro e w44 ⟨rfl, hb⟩; have n0_ := Aside0.mk (below_step (by repeat (first | (with_reducible first | exact HB.out | apply below_alloc | apply pw_below_drewN | apply below_drew1) | exact HB.out)) hb); clear HB; have HB := n0_; clear n0_; (try clear hb); (try clear hb2); (try clear hk); (try clear hi)) | (go_at_call 18; (with_reducible refine (role_May.calls 2 a1 t203 _ A40.out).mono ?_); rintro e w45 ⟨rfl, hb⟩; have n0_ := Aside0.mk (below_step (by repeat (first | (with_reducible first | exact HB.out | apply below_alloc | apply pw_below_drewN | apply below_drew1) | exact HB.out)) hb); clear HB; have HB := n0_; clear n0_; (try clear hb); (try clear hb2); (try clear hk); (try clear hi)))
                          go_ret
                          (try (have e_ := eA30.out; subst e_))
                          (try (have e_ := eA270.out; subst e_))
                          (try (have e_ := eA290.out; subst e_))
                          (try (have e_ := eA310.out; subst e_))
                          (try (have e_ := eA330.out; subst e_))
                          (try (have e_ := eA350.out; subst e_))
                          (try (have e_ := eA380.out; subst e_))
                          (try (have e_ := eA400.out; subst e_))
                          exact ⟨by first | rfl | (simp [errW_none, errW_some] <;> rfl) | (simp [*, errW_none, errW_some] <;> rfl), by repeat (first | (with_reducible first | exact HB.out | apply below_alloc | apply pw_below_drewN | apply below_drew1) | exact HB.out)⟩
                        · replace c39 := Bool.eq_false_iff.mpr c39
                          subst c39
                          have H1 : (some true) = some r := by rw [if_neg (show ¬ (false = true) by decide)] at H; exact H
                          clear H
                          have H := H1
                          clear H1
                          obtain rfl := Option.some.inj H
                          go_wp2_with (first | ((with_reducible refine gate_callee (f := 17) rfl ?_); refine goesL_ (some 35) rfl rfl Try.func17 (by kernel_rfl) rfl #[.int .i64 a0] rfl (by (try simp only [List.map_toArray, List.map_cons, List.map_nil]); first | done | rfl | (simp only [List.length_drop, List.length_take]; rfl)) ?_; (with_reducible refine (role_Is.calls a0 true _ A27.out).mono ?_); rintro e w' ⟨rfl, ⟨nd, rfl⟩⟩; refine ⟨_, rfl, ?_⟩) | (go_at_call 18; (with_reducible refine (role_May.calls 0 a1 true _ A29.out).mono ?_); rintro e w46 ⟨rfl, hb⟩; have n0_ := Aside0.mk (below_step (by repeat (first | (with_reducible first | exact HB.out | apply below_alloc | apply pw_below_drewN | apply below_drew1) | exact HB.out)) hb); clear HB; have HB := n0_; clear n0_; (try clear hb); (try clear hb2); (try clear hk); (try clear hi)) | (go_at_call 18; (with_reducible refine (role_May.calls a0 a1 true _ A31.out).mono ?_); rintro e w47 ⟨rfl, hb⟩; have n0_ := Aside0.mk (below_step (by repeat (first | (with_reducible first | exact HB.out | apply below_alloc | apply pw_below_drewN | apply below_drew1) | exact HB.out)) hb); clear HB; have HB := n0_; clear n0_; (try clear hb); (try clear hb2); (try clear hk); (try clear hi)) | (go_at_call 18; (with_reducible refine (role_May.calls 2 a1 t200 _ A33.out).mono ?_); rintro e w48 ⟨rfl, hb⟩; have n0_ := Aside0.mk (below_step (by repeat (first | (with_reducible first | exact HB.out | apply below_alloc | apply pw_below_drewN | apply below_drew1) | exact HB.out)) hb); clear HB; have HB := n0_; clear n0_; (try clear hb); (try clear hb2); (try clear hk); (try clear hi)) | (go_at_call 19; (with_reducible refine (role_Turns.calls a1 true _ A35.out).mono ?_); rintro e w' ⟨rfl, ⟨nd, rfl⟩⟩) | (go_at_call 18; (with_reducible refine (role_May.calls 1 a1 false _ A38.out).mono ?_); rintro e w49 ⟨rfl, hb⟩; have n0_ := Aside0.mk (below_step (by repeat (first | (with_reducible first | exact HB.out | apply below_alloc | apply pw_below_drewN | apply below_drew1) | exact HB.out)) hb); clear HB; have HB := n0_; clear n0_; (try clear hb); (try clear hb2); (try clear hk); (try clear hi)))
                          go_ret
                          (try (have e_ := eA30.out; subst e_))
                          (try (have e_ := eA270.out; subst e_))
                          (try (have e_ := eA290.out; subst e_))
                          (try (have e_ := eA310.out; subst e_))
                          (try (have e_ := eA330.out; subst e_))
                          (try (have e_ := eA350.out; subst e_))
                          (try (have e_ := eA380.out; subst e_))
                          exact ⟨by first | rfl | (simp [errW_none, errW_some] <;> rfl) | (simp [*, errW_none, errW_some] <;> rfl), by repeat (first | (with_reducible first | exact HB.out | apply below_alloc | apply pw_below_drewN | apply below_drew1) | exact HB.out)⟩
                      · replace c37 := Bool.eq_false_iff.mpr c37
                        subst c37
                        have H1 : (some false) = some r := by rw [if_neg (show ¬ (false = true) by decide)] at H; exact H
                        clear H
                        have H := H1
                        clear H1
                        obtain rfl := Option.some.inj H
                        go_wp2_with (first | ((with_reducible refine gate_callee (f := 17) rfl ?_); refine goesL_ (some 35) rfl rfl Try.func17 (by kernel_rfl) rfl #[.int .i64 a0] rfl (by (try simp only [List.map_toArray, List.map_cons, List.map_nil]); first | done | rfl | (simp only [List.length_drop, List.length_take]; rfl)) ?_; (with_reducible refine (role_Is.calls a0 true _ A27.out).mono ?_); rintro e w' ⟨rfl, ⟨nd, rfl⟩⟩; refine ⟨_, rfl, ?_⟩) | (go_at_call 18; (with_reducible refine (role_May.calls 0 a1 true _ A29.out).mono ?_); rintro e w50 ⟨rfl, hb⟩; have n0_ := Aside0.mk (below_step (by repeat (first | (with_reducible first | exact HB.out | apply below_alloc | apply pw_below_drewN | apply below_drew1) | exact HB.out)) hb); clear HB; have HB := n0_; clear n0_; (try clear hb); (try clear hb2); (try clear hk); (try clear hi)) | (go_at_call 18; (with_reducible refine (role_May.calls a0 a1 true _ A31.out).mono ?_); rintro e w51 ⟨rfl, hb⟩; have n0_ := Aside0.mk (below_step (by repeat (first | (with_reducible first | exact HB.out | apply below_alloc | apply pw_below_drewN | apply below_drew1) | exact HB.out)) hb); clear HB; have HB := n0_; clear n0_; (try clear hb); (try clear hb2); (try clear hk); (try clear hi)) | (go_at_call 18; (with_reducible refine (role_May.calls 2 a1 t200 _ A33.out).mono ?_); rintro e w52 ⟨rfl, hb⟩; have n0_ := Aside0.mk (below_step (by repeat (first | (with_reducible first | exact HB.out | apply below_alloc | apply pw_below_drewN | apply below_drew1) | exact HB.out)) hb); clear HB; have HB := n0_; clear n0_; (try clear hb); (try clear hb2); (try clear hk); (try clear hi)) | (go_at_call 19; (with_reducible refine (role_Turns.calls a1 true _ A35.out).mono ?_); rintro e w' ⟨rfl, ⟨nd, rfl⟩⟩))
                        go_ret
                        (try (have e_ := eA30.out; subst e_))
                        (try (have e_ := eA270.out; subst e_))
                        (try (have e_ := eA290.out; subst e_))
                        (try (have e_ := eA310.out; subst e_))
                        (try (have e_ := eA330.out; subst e_))
                        (try (have e_ := eA350.out; subst e_))
                        exact ⟨by first | rfl | (simp [errW_none, errW_some] <;> rfl) | (simp [*, errW_none, errW_some] <;> rfl), by repeat (first | (with_reducible first | exact HB.out | apply below_alloc | apply pw_below_drewN | apply below_drew1) | exact HB.out)⟩
                    · replace c36 := Bool.eq_false_iff.mpr c36
                      subst c36
                      have H1 : ((role_May.f 1 a1).bind fun t204 => (if t204 = true then ((role_May.f 2 a1).bind fun t205 => (some t205)) else (some true))) = some r := by rw [if_neg (show ¬ (false = true) by decide)] at H; exact H
                      clear H
                      have H := H1
                      clear H1
                      replace H := Option.bind_eq_some_iff.mp H
                      obtain ⟨t204, A530, H⟩ := H
                      (try (have eA530 := Aside0.mk (Option.some.inj ((show Aside0 (_ = some _) by assumption).out.symm.trans A530))))
                      replace H : (if t204 = true then ((role_May.f 2 a1).bind fun t205 => (some t205)) else (some true)) = some r := H
                      have A53 := Aside0.mk A530
                      clear A530
                      by_cases c54 : t204 = true
                      · subst c54
                        have H1 : ((role_May.f 2 a1).bind fun t205 => (some t205)) = some r := by rw [if_pos rfl] at H; exact H
                        clear H
                        have H := H1
                        clear H1
                        replace H := Option.bind_eq_some_iff.mp H
                        obtain ⟨t205, A550, H⟩ := H
                        (try (have eA550 := Aside0.mk (Option.some.inj ((show Aside0 (_ = some _) by assumption).out.symm.trans A550))))
                        replace H : (some t205) = some r := H
                        have A55 := Aside0.mk A550
                        clear A550
                        obtain rfl := Option.some.inj H
                        go_wp2_with (first | ((with_reducible refine gate_callee (f := 17) rfl ?_); refine goesL_ (some 35) rfl rfl Try.func17 (by kernel_rfl) rfl #[.int .i64 a0] rfl (by (try simp only [List.map_toArray, List.map_cons, List.map_nil]); first | done | rfl | (simp only [List.length_drop, List.length_take]; rfl)) ?_; (with_reducible refine (role_Is.calls a0 true _ A27.out).mono ?_); rintro e w' ⟨rfl, ⟨nd, rfl⟩⟩; refine ⟨_, rfl, ?_⟩) | (go_at_call 18; (with_reducible refine (role_May.calls 0 a1 true _ A29.out).mono ?_); rintro e w56 ⟨rfl, hb⟩; have n0_ := Aside0.mk (below_step (by repeat (first | (with_reducible first | exact HB.out | apply below_alloc | apply pw_below_drewN | apply below_drew1) | exact HB.out)) hb); clear HB; have HB := n0_; clear n0_; (try clear hb); (try clear hb2); (try clear hk); (try clear hi)) | (go_at_call 18; (with_reducible refine (role_May.calls a0 a1 true _ A31.out).mono ?_); rintro e w57 ⟨rfl, hb⟩; have n0_ := Aside0.mk (below_step (by repeat (first | (with_reducible first | exact HB.out | apply below_alloc | apply pw_below_drewN | apply below_drew1) | exact HB.out)) hb); clear HB; have HB := n0_; clear n0_; (try clear hb); (try clear hb2); (try clear hk); (try clear hi)) | (go_at_call 18; (with_reducible refine (role_May.calls 2 a1 t200 _ A33.out).mono ?_); rintro e w58 ⟨rfl, hb⟩; have n0_ := Aside0.mk (below_step (by repeat (first | (with_reducible first | exact HB.out | apply below_alloc | apply pw_below_drewN | apply below_drew1) | exact HB.out)) hb); clear HB; have HB := n0_; clear n0_; (try clear hb); (try clear hb2); (try clear hk); (try clear hi)) | (go_at_call 19; (with_reducible refine (role_Turns.calls a1 false _ A35.out).mono ?_); rintro e w' ⟨rfl, ⟨nd, rfl⟩⟩) | (go_at_call 18; (with_reducible refine (role_May.calls 1 a1 true _ A53.out).mono ?_); rintro e w59 ⟨rfl, hb⟩; have n0_ := Aside0.mk (below_step (by repeat (first | (with_reducible first | exact HB.out | apply below_alloc | apply pw_below_drewN | apply below_drew1) | exact HB.out)) hb); clear HB; have HB := n0_; clear n0_; (try clear hb); (try clear hb2); (try clear hk); (try clear hi)) | (go_at_call 18; (with_reducible refine (role_May.calls 2 a1 t205 _ A55.out).mono ?_); rintro e w60 ⟨rfl, hb⟩; have n0_ := Aside0.mk (below_step (by repeat (first | (with_reducible first | exact HB.out | apply below_alloc | apply pw_below_drewN | apply below_drew1) | exact HB.out)) hb); clear HB; have HB := n0_; clear n0_; (try clear hb); (try clear hb2); (try clear hk); (try clear hi)))
                        go_ret
                        (try (have e_ := eA30.out; subst e_))
                        (try (have e_ := eA270.out; subst e_))
                        (try (have e_ := eA290.out; subst e_))
                        (try (have e_ := eA310.out; subst e_))
                        (try (have e_ := eA330.out; subst e_))
                        (try (have e_ := eA350.out; subst e_))
                        (try (have e_ := eA530.out; subst e_))
                        (try (have e_ := eA550.out; subst e_))
                        exact ⟨by first | rfl | (simp [errW_none, errW_some] <;> rfl) | (simp [*, errW_none, errW_some] <;> rfl), by repeat (first | (with_reducible first | exact HB.out | apply below_alloc | apply pw_below_drewN | apply below_drew1) | exact HB.out)⟩
                      · replace c54 := Bool.eq_false_iff.mpr c54
                        subst c54
                        have H1 : (some true) = some r := by rw [if_neg (show ¬ (false = true) by decide)] at H; exact H
                        clear H
                        have H := H1
                        clear H1
                        obtain rfl := Option.some.inj H
                        go_wp2_with (first | ((with_reducible refine gate_callee (f := 17) rfl ?_); refine goesL_ (some 35) rfl rfl Try.func17 (by kernel_rfl) rfl #[.int .i64 a0] rfl (by (try simp only [List.map_toArray, List.map_cons, List.map_nil]); first | done | rfl | (simp only [List.length_drop, List.length_take]; rfl)) ?_; (with_reducible refine (role_Is.calls a0 true _ A27.out).mono ?_); rintro e w' ⟨rfl, ⟨nd, rfl⟩⟩; refine ⟨_, rfl, ?_⟩) | (go_at_call 18; (with_reducible refine (role_May.calls 0 a1 true _ A29.out).mono ?_); rintro e w61 ⟨rfl, hb⟩; have n0_ := Aside0.mk (below_step (by repeat (first | (with_reducible first | exact HB.out | apply below_alloc | apply pw_below_drewN | apply below_drew1) | exact HB.out)) hb); clear HB; have HB := n0_; clear n0_; (try clear hb); (try clear hb2); (try clear hk); (try clear hi)) | (go_at_call 18; (with_reducible refine (role_May.calls a0 a1 true _ A31.out).mono ?_); rintro e w62 ⟨rfl, hb⟩; have n0_ := Aside0.mk (below_step (by repeat (first | (with_reducible first | exact HB.out | apply below_alloc | apply pw_below_drewN | apply below_drew1) | exact HB.out)) hb); clear HB; have HB := n0_; clear n0_; (try clear hb); (try clear hb2); (try clear hk); (try clear hi)) | (go_at_call 18; (with_reducible refine (role_May.calls 2 a1 t200 _ A33.out).mono ?_); rintro e w63 ⟨rfl, hb⟩; have n0_ := Aside0.mk (below_step (by repeat (first | (with_reducible first | exact HB.out | apply below_alloc | apply pw_below_drewN | apply below_drew1) | exact HB.out)) hb); clear HB; have HB := n0_; clear n0_; (try clear hb); (try clear hb2); (try clear hk); (try clear hi)) | (go_at_call 19; (with_reducible refine (role_Turns.calls a1 false _ A35.out).mono ?_); rintro e w' ⟨rfl, ⟨nd, rfl⟩⟩) | (go_at_call 18; (with_reducible refine (role_May.calls 1 a1 false _ A53.out).mono ?_); rintro e w64 ⟨rfl, hb⟩; have n0_ := Aside0.mk (below_step (by repeat (first | (with_reducible first | exact HB.out | apply below_alloc | apply pw_below_drewN | apply below_drew1) | exact HB.out)) hb); clear HB; have HB := n0_; clear n0_; (try clear hb); (try clear hb2); (try clear hk); (try clear hi)))
                        go_ret
                        (try (have e_ := eA30.out; subst e_))
                        (try (have e_ := eA270.out; subst e_))
                        (try (have e_ := eA290.out; subst e_))
                        (try (have e_ := eA310.out; subst e_))
                        (try (have e_ := eA330.out; subst e_))
                        (try (have e_ := eA350.out; subst e_))
                        (try (have e_ := eA530.out; subst e_))
                        exact ⟨by first | rfl | (simp [errW_none, errW_some] <;> rfl) | (simp [*, errW_none, errW_some] <;> rfl), by repeat (first | (with_reducible first | exact HB.out | apply below_alloc | apply pw_below_drewN | apply below_drew1) | exact HB.out)⟩
                  · rw [if_neg c34] at H
                    have c34b0 : (t200 == x6_24) = false := by simpa using c34
                    (try (have c34b1 : decide (t200 = x6_24) = false := by simpa using c34))
                    (try (have c34b2 : (t200 == x6_24) = false := by simpa using c34))
                    (try (have c34b3 : ¬ (t200 = x6_24) := by simpa using c34))
                    clear c34
                    obtain rfl := Option.some.inj H
                    go_wp2_with (first | ((with_reducible refine gate_callee (f := 17) rfl ?_); refine goesL_ (some 35) rfl rfl Try.func17 (by kernel_rfl) rfl #[.int .i64 a0] rfl (by (try simp only [List.map_toArray, List.map_cons, List.map_nil]); first | done | rfl | (simp only [List.length_drop, List.length_take]; rfl)) ?_; (with_reducible refine (role_Is.calls a0 true _ A27.out).mono ?_); rintro e w' ⟨rfl, ⟨nd, rfl⟩⟩; refine ⟨_, rfl, ?_⟩) | (go_at_call 18; (with_reducible refine (role_May.calls 0 a1 true _ A29.out).mono ?_); rintro e w65 ⟨rfl, hb⟩; have n0_ := Aside0.mk (below_step (by repeat (first | (with_reducible first | exact HB.out | apply below_alloc | apply pw_below_drewN | apply below_drew1) | exact HB.out)) hb); clear HB; have HB := n0_; clear n0_; (try clear hb); (try clear hb2); (try clear hk); (try clear hi)) | (go_at_call 18; (with_reducible refine (role_May.calls a0 a1 true _ A31.out).mono ?_); rintro e w66 ⟨rfl, hb⟩; have n0_ := Aside0.mk (below_step (by repeat (first | (with_reducible first | exact HB.out | apply below_alloc | apply pw_below_drewN | apply below_drew1) | exact HB.out)) hb); clear HB; have HB := n0_; clear n0_; (try clear hb); (try clear hb2); (try clear hk); (try clear hi)) | (go_at_call 18; (with_reducible refine (role_May.calls 2 a1 t200 _ A33.out).mono ?_); rintro e w67 ⟨rfl, hb⟩; have n0_ := Aside0.mk (below_step (by repeat (first | (with_reducible first | exact HB.out | apply below_alloc | apply pw_below_drewN | apply below_drew1) | exact HB.out)) hb); clear HB; have HB := n0_; clear n0_; (try clear hb); (try clear hb2); (try clear hk); (try clear hi)))
                    go_ret
                    (try (have e_ := eA30.out; subst e_))
                    (try (have e_ := eA270.out; subst e_))
                    (try (have e_ := eA290.out; subst e_))
                    (try (have e_ := eA310.out; subst e_))
                    (try (have e_ := eA330.out; subst e_))
                    exact ⟨by first | rfl | (simp [errW_none, errW_some] <;> rfl) | (simp [*, errW_none, errW_some] <;> rfl), by repeat (first | (with_reducible first | exact HB.out | apply below_alloc | apply pw_below_drewN | apply below_drew1) | exact HB.out)⟩
                · replace c32 := Bool.eq_false_iff.mpr c32
                  subst c32
                  have H1 : (some false) = some r := by rw [if_neg (show ¬ (false = true) by decide)] at H; exact H
                  clear H
                  have H := H1
                  clear H1
                  obtain rfl := Option.some.inj H
                  go_wp2_with (first | ((with_reducible refine gate_callee (f := 17) rfl ?_); refine goesL_ (some 35) rfl rfl Try.func17 (by kernel_rfl) rfl #[.int .i64 a0] rfl (by (try simp only [List.map_toArray, List.map_cons, List.map_nil]); first | done | rfl | (simp only [List.length_drop, List.length_take]; rfl)) ?_; (with_reducible refine (role_Is.calls a0 true _ A27.out).mono ?_); rintro e w' ⟨rfl, ⟨nd, rfl⟩⟩; refine ⟨_, rfl, ?_⟩) | (go_at_call 18; (with_reducible refine (role_May.calls 0 a1 true _ A29.out).mono ?_); rintro e w68 ⟨rfl, hb⟩; have n0_ := Aside0.mk (below_step (by repeat (first | (with_reducible first | exact HB.out | apply below_alloc | apply pw_below_drewN | apply below_drew1) | exact HB.out)) hb); clear HB; have HB := n0_; clear n0_; (try clear hb); (try clear hb2); (try clear hk); (try clear hi)) | (go_at_call 18; (with_reducible refine (role_May.calls a0 a1 false _ A31.out).mono ?_); rintro e w69 ⟨rfl, hb⟩; have n0_ := Aside0.mk (below_step (by repeat (first | (with_reducible first | exact HB.out | apply below_alloc | apply pw_below_drewN | apply below_drew1) | exact HB.out)) hb); clear HB; have HB := n0_; clear n0_; (try clear hb); (try clear hb2); (try clear hk); (try clear hi)))
                  go_ret
                  (try (have e_ := eA30.out; subst e_))
                  (try (have e_ := eA270.out; subst e_))
                  (try (have e_ := eA290.out; subst e_))
                  (try (have e_ := eA310.out; subst e_))
                  exact ⟨by first | rfl | (simp [errW_none, errW_some] <;> rfl) | (simp [*, errW_none, errW_some] <;> rfl), by repeat (first | (with_reducible first | exact HB.out | apply below_alloc | apply pw_below_drewN | apply below_drew1) | exact HB.out)⟩
              · replace c30 := Bool.eq_false_iff.mpr c30
                subst c30
                have H1 : ((role_May.f 2 a1).bind fun t206 => (if (t206 == x6_24) = true then ((role_Turns.f a1).bind fun t207 => (if t207 = true then (if x6_24 = true then ((role_May.f 1 a1).bind fun t208 => (if t208 = true then ((role_May.f 2 a1).bind fun t209 => (some t209)) else (some true))) else (some false)) else ((role_May.f 1 a1).bind fun t210 => (if t210 = true then ((role_May.f 2 a1).bind fun t211 => (some t211)) else (some true))))) else (some false))) = some r := by rw [if_neg (show ¬ (false = true) by decide)] at H; exact H
                clear H
                have H := H1
                clear H1
                replace H := Option.bind_eq_some_iff.mp H
                obtain ⟨t206, A700, H⟩ := H
                (try (have eA700 := Aside0.mk (Option.some.inj ((show Aside0 (_ = some _) by assumption).out.symm.trans A700))))
                replace H : (if (t206 == x6_24) = true then ((role_Turns.f a1).bind fun t207 => (if t207 = true then (if x6_24 = true then ((role_May.f 1 a1).bind fun t208 => (if t208 = true then ((role_May.f 2 a1).bind fun t209 => (some t209)) else (some true))) else (some false)) else ((role_May.f 1 a1).bind fun t210 => (if t210 = true then ((role_May.f 2 a1).bind fun t211 => (some t211)) else (some true))))) else (some false)) = some r := H
                have A70 := Aside0.mk A700
                clear A700
                by_cases c71 : (t206 == x6_24) = true
                · rw [if_pos c71] at H
                  have c71b0 : (t206 == x6_24) = true := c71
                  (try (have c71b1 : decide (t206 = x6_24) = true := by simpa using c71))
                  (try (have c71b2 : (t206 == x6_24) = true := by simpa using c71))
                  clear c71
                  replace H := Option.bind_eq_some_iff.mp H
                  obtain ⟨t207, A720, H⟩ := H
                  (try (have eA720 := Aside0.mk (Option.some.inj ((show Aside0 (_ = some _) by assumption).out.symm.trans A720))))
                  replace H : (if t207 = true then (if x6_24 = true then ((role_May.f 1 a1).bind fun t208 => (if t208 = true then ((role_May.f 2 a1).bind fun t209 => (some t209)) else (some true))) else (some false)) else ((role_May.f 1 a1).bind fun t210 => (if t210 = true then ((role_May.f 2 a1).bind fun t211 => (some t211)) else (some true)))) = some r := H
                  have A72 := Aside0.mk A720
                  clear A720
                  by_cases c73 : t207 = true
                  · subst c73
                    have H1 : (if x6_24 = true then ((role_May.f 1 a1).bind fun t208 => (if t208 = true then ((role_May.f 2 a1).bind fun t209 => (some t209)) else (some true))) else (some false)) = some r := by rw [if_pos rfl] at H; exact H
                    clear H
                    have H := H1
                    clear H1
                    by_cases c74 : x6_24 = true
                    · subst c74
                      have H1 : ((role_May.f 1 a1).bind fun t208 => (if t208 = true then ((role_May.f 2 a1).bind fun t209 => (some t209)) else (some true))) = some r := by rw [if_pos rfl] at H; exact H
                      clear H
                      have H := H1
                      clear H1
                      replace H := Option.bind_eq_some_iff.mp H
                      obtain ⟨t208, A750, H⟩ := H
                      (try (have eA750 := Aside0.mk (Option.some.inj ((show Aside0 (_ = some _) by assumption).out.symm.trans A750))))
                      replace H : (if t208 = true then ((role_May.f 2 a1).bind fun t209 => (some t209)) else (some true)) = some r := H
                      have A75 := Aside0.mk A750
                      clear A750
                      by_cases c76 : t208 = true
                      · subst c76
                        have H1 : ((role_May.f 2 a1).bind fun t209 => (some t209)) = some r := by rw [if_pos rfl] at H; exact H
                        clear H
                        have H := H1
                        clear H1
                        replace H := Option.bind_eq_some_iff.mp H
                        obtain ⟨t209, A770, H⟩ := H
                        (try (have eA770 := Aside0.mk (Option.some.inj ((show Aside0 (_ = some _) by assumption).out.symm.trans A770))))
                        replace H : (some t209) = some r := H
                        have A77 := Aside0.mk A770
                        clear A770
                        obtain rfl := Option.some.inj H
                        go_wp2_with (first | ((with_reducible refine gate_callee (f := 17) rfl ?_); refine goesL_ (some 35) rfl rfl Try.func17 (by kernel_rfl) rfl #[.int .i64 a0] rfl (by (try simp only [List.map_toArray, List.map_cons, List.map_nil]); first | done | rfl | (simp only [List.length_drop, List.length_take]; rfl)) ?_; (with_reducible refine (role_Is.calls a0 true _ A27.out).mono ?_); rintro e w' ⟨rfl, ⟨nd, rfl⟩⟩; refine ⟨_, rfl, ?_⟩) | (go_at_call 18; (with_reducible refine (role_May.calls 0 a1 false _ A29.out).mono ?_); rintro e w78 ⟨rfl, hb⟩; have n0_ := Aside0.mk (below_step (by repeat (first | (with_reducible first | exact HB.out | apply below_alloc | apply pw_below_drewN | apply below_drew1) | exact HB.out)) hb); clear HB; have HB := n0_; clear n0_; (try clear hb); (try clear hb2); (try clear hk); (try clear hi)) | (go_at_call 18; (with_reducible refine (role_May.calls 2 a1 t206 _ A70.out).mono ?_); rintro e w79 ⟨rfl, hb⟩; have n0_ := Aside0.mk (below_step (by repeat (first | (with_reducible first | exact HB.out | apply below_alloc | apply pw_below_drewN | apply below_drew1) | exact HB.out)) hb); clear HB; have HB := n0_; clear n0_; (try clear hb); (try clear hb2); (try clear hk); (try clear hi)) | (go_at_call 19; (with_reducible refine (role_Turns.calls a1 true _ A72.out).mono ?_); rintro e w' ⟨rfl, ⟨nd, rfl⟩⟩) | (go_at_call 18; (with_reducible refine (role_May.calls 1 a1 true _ A75.out).mono ?_); rintro e w80 ⟨rfl, hb⟩; have n0_ := Aside0.mk (below_step (by repeat (first | (with_reducible first | exact HB.out | apply below_alloc | apply pw_below_drewN | apply below_drew1) | exact HB.out)) hb); clear HB; have HB := n0_; clear n0_; (try clear hb); (try clear hb2); (try clear hk); (try clear hi)) | (go_at_call 18; (with_reducible refine (role_May.calls 2 a1 t209 _ A77.out).mono ?_); rintro e w81 ⟨rfl, hb⟩; have n0_ := Aside0.mk (below_step (by repeat (first | (with_reducible first | exact HB.out | apply below_alloc | apply pw_below_drewN | apply below_drew1) | exact HB.out)) hb); clear HB; have HB := n0_; clear n0_; (try clear hb); (try clear hb2); (try clear hk); (try clear hi)))
                        go_ret
                        (try (have e_ := eA30.out; subst e_))
                        (try (have e_ := eA270.out; subst e_))
                        (try (have e_ := eA290.out; subst e_))
                        (try (have e_ := eA700.out; subst e_))
                        (try (have e_ := eA720.out; subst e_))
                        (try (have e_ := eA750.out; subst e_))
                        (try (have e_ := eA770.out; subst e_))
                        exact ⟨by first | rfl | (simp [errW_none, errW_some] <;> rfl) | (simp [*, errW_none, errW_some] <;> rfl), by repeat (first | (with_reducible first | exact HB.out | apply below_alloc | apply pw_below_drewN | apply below_drew1) | exact HB.out)⟩
                      · replace c76 := Bool.eq_false_iff.mpr c76
                        subst c76
                        have H1 : (some true) = some r := by rw [if_neg (show ¬ (false = true) by decide)] at H; exact H
                        clear H
                        have H := H1
                        clear H1
                        obtain rfl := Option.some.inj H
                        go_wp2_with (first | ((with_reducible refine gate_callee (f := 17) rfl ?_); refine goesL_ (some 35) rfl rfl Try.func17 (by kernel_rfl) rfl #[.int .i64 a0] rfl (by (try simp only [List.map_toArray, List.map_cons, List.map_nil]); first | done | rfl | (simp only [List.length_drop, List.length_take]; rfl)) ?_; (with_reducible refine (role_Is.calls a0 true _ A27.out).mono ?_); rintro e w' ⟨rfl, ⟨nd, rfl⟩⟩; refine ⟨_, rfl, ?_⟩) | (go_at_call 18; (with_reducible refine (role_May.calls 0 a1 false _ A29.out).mono ?_); rintro e w82 ⟨rfl, hb⟩; have n0_ := Aside0.mk (below_step (by repeat (first | (with_reducible first | exact HB.out | apply below_alloc | apply pw_below_drewN | apply below_drew1) | exact HB.out)) hb); clear HB; have HB := n0_; clear n0_; (try clear hb); (try clear hb2); (try clear hk); (try clear hi)) | (go_at_call 18; (with_reducible refine (role_May.calls 2 a1 t206 _ A70.out).mono ?_); rintro e w83 ⟨rfl, hb⟩; have n0_ := Aside0.mk (below_step (by repeat (first | (with_reducible first | exact HB.out | apply below_alloc | apply pw_below_drewN | apply below_drew1) | exact HB.out)) hb); clear HB; have HB := n0_; clear n0_; (try clear hb); (try clear hb2); (try clear hk); (try clear hi)) | (go_at_call 19; (with_reducible refine (role_Turns.calls a1 true _ A72.out).mono ?_); rintro e w' ⟨rfl, ⟨nd, rfl⟩⟩) | (go_at_call 18; (with_reducible refine (role_May.calls 1 a1 false _ A75.out).mono ?_); rintro e w84 ⟨rfl, hb⟩; have n0_ := Aside0.mk (below_step (by repeat (first | (with_reducible first | exact HB.out | apply below_alloc | apply pw_below_drewN | apply below_drew1) | exact HB.out)) hb); clear HB; have HB := n0_; clear n0_; (try clear hb); (try clear hb2); (try clear hk); (try clear hi)))
                        go_ret
                        (try (have e_ := eA30.out; subst e_))
                        (try (have e_ := eA270.out; subst e_))
                        (try (have e_ := eA290.out; subst e_))
                        (try (have e_ := eA700.out; subst e_))
                        (try (have e_ := eA720.out; subst e_))
                        (try (have e_ := eA750.out; subst e_))
                        exact ⟨by first | rfl | (simp [errW_none, errW_some] <;> rfl) | (simp [*, errW_none, errW_some] <;> rfl), by repeat (first | (with_reducible first | exact HB.out | apply below_alloc | apply pw_below_drewN | apply below_drew1) | exact HB.out)⟩
                    · replace c74 := Bool.eq_false_iff.mpr c74
                      subst c74
                      have H1 : (some false) = some r := by rw [if_neg (show ¬ (false = true) by decide)] at H; exact H
                      clear H
                      have H := H1
                      clear H1
                      obtain rfl := Option.some.inj H
                      go_wp2_with (first | ((with_reducible refine gate_callee (f := 17) rfl ?_); refine goesL_ (some 35) rfl rfl Try.func17 (by kernel_rfl) rfl #[.int .i64 a0] rfl (by (try simp only [List.map_toArray, List.map_cons, List.map_nil]); first | done | rfl | (simp only [List.length_drop, List.length_take]; rfl)) ?_; (with_reducible refine (role_Is.calls a0 true _ A27.out).mono ?_); rintro e w' ⟨rfl, ⟨nd, rfl⟩⟩; refine ⟨_, rfl, ?_⟩) | (go_at_call 18; (with_reducible refine (role_May.calls 0 a1 false _ A29.out).mono ?_); rintro e w85 ⟨rfl, hb⟩; have n0_ := Aside0.mk (below_step (by repeat (first | (with_reducible first | exact HB.out | apply below_alloc | apply pw_below_drewN | apply below_drew1) | exact HB.out)) hb); clear HB; have HB := n0_; clear n0_; (try clear hb); (try clear hb2); (try clear hk); (try clear hi)) | (go_at_call 18; (with_reducible refine (role_May.calls 2 a1 t206 _ A70.out).mono ?_); rintro e w86 ⟨rfl, hb⟩; have n0_ := Aside0.mk (below_step (by repeat (first | (with_reducible first | exact HB.out | apply below_alloc | apply pw_below_drewN | apply below_drew1) | exact HB.out)) hb); clear HB; have HB := n0_; clear n0_; (try clear hb); (try clear hb2); (try clear hk); (try clear hi)) | (go_at_call 19; (with_reducible refine (role_Turns.calls a1 true _ A72.out).mono ?_); rintro e w' ⟨rfl, ⟨nd, rfl⟩⟩))
                      go_ret
                      (try (have e_ := eA30.out; subst e_))
                      (try (have e_ := eA270.out; subst e_))
                      (try (have e_ := eA290.out; subst e_))
                      (try (have e_ := eA700.out; subst e_))
                      (try (have e_ := eA720.out; subst e_))
                      exact ⟨by first | rfl | (simp [errW_none, errW_some] <;> rfl) | (simp [*, errW_none, errW_some] <;> rfl), by repeat (first | (with_reducible first | exact HB.out | apply below_alloc | apply pw_below_drewN | apply below_drew1) | exact HB.out)⟩
                  · replace c73 := Bool.eq_false_iff.mpr c73
                    subst c73
                    have H1 : ((role_May.f 1 a1).bind fun t210 => (if t210 = true then ((role_May.f 2 a1).bind fun t211 => (some t211)) else (some true))) = some r := by rw [if_neg (show ¬ (false = true) by decide)] at H; exact H
                    clear H
                    have H := H1
                    clear H1
                    replace H := Option.bind_eq_some_iff.mp H
                    obtain ⟨t210, A870, H⟩ := H
                    (try (have eA870 := Aside0.mk (Option.some.inj ((show Aside0 (_ = some _) by assumption).out.symm.trans A870))))
                    replace H : (if t210 = true then ((role_May.f 2 a1).bind fun t211 => (some t211)) else (some true)) = some r := H
                    have A87 := Aside0.mk A870
                    clear A870
                    by_cases c88 : t210 = true
                    · subst c88
                      have H1 : ((role_May.f 2 a1).bind fun t211 => (some t211)) = some r := by rw [if_pos rfl] at H; exact H
                      clear H
                      have H := H1
                      clear H1
                      replace H := Option.bind_eq_some_iff.mp H
                      obtain ⟨t211, A890, H⟩ := H
                      (try (have eA890 := Aside0.mk (Option.some.inj ((show Aside0 (_ = some _) by assumption).out.symm.trans A890))))
                      replace H : (some t211) = some r := H
                      have A89 := Aside0.mk A890
                      clear A890
                      obtain rfl := Option.some.inj H
                      go_wp2_with (first | ((with_reducible refine gate_callee (f := 17) rfl ?_); refine goesL_ (some 35) rfl rfl Try.func17 (by kernel_rfl) rfl #[.int .i64 a0] rfl (by (try simp only [List.map_toArray, List.map_cons, List.map_nil]); first | done | rfl | (simp only [List.length_drop, List.length_take]; rfl)) ?_; (with_reducible refine (role_Is.calls a0 true _ A27.out).mono ?_); rintro e w' ⟨rfl, ⟨nd, rfl⟩⟩; refine ⟨_, rfl, ?_⟩) | (go_at_call 18; (with_reducible refine (role_May.calls 0 a1 false _ A29.out).mono ?_); rintro e w90 ⟨rfl, hb⟩; have n0_ := Aside0.mk (below_step (by repeat (first | (with_reducible first | exact HB.out | apply below_alloc | apply pw_below_drewN | apply below_drew1) | exact HB.out)) hb); clear HB; have HB := n0_; clear n0_; (try clear hb); (try clear hb2); (try clear hk); (try clear hi)) | (go_at_call 18; (with_reducible refine (role_May.calls 2 a1 t206 _ A70.out).mono ?_); rintro e w91 ⟨rfl, hb⟩; have n0_ := Aside0.mk (below_step (by repeat (first | (with_reducible first | exact HB.out | apply below_alloc | apply pw_below_drewN | apply below_drew1) | exact HB.out)) hb); clear HB; have HB := n0_; clear n0_; (try clear hb); (try clear hb2); (try clear hk); (try clear hi)) | (go_at_call 19; (with_reducible refine (role_Turns.calls a1 false _ A72.out).mono ?_); rintro e w' ⟨rfl, ⟨nd, rfl⟩⟩) | (go_at_call 18; (with_reducible refine (role_May.calls 1 a1 true _ A87.out).mono ?_); rintro e w92 ⟨rfl, hb⟩; have n0_ := Aside0.mk (below_step (by repeat (first | (with_reducible first | exact HB.out | apply below_alloc | apply pw_below_drewN | apply below_drew1) | exact HB.out)) hb); clear HB; have HB := n0_; clear n0_; (try clear hb); (try clear hb2); (try clear hk); (try clear hi)) | (go_at_call 18; (with_reducible refine (role_May.calls 2 a1 t211 _ A89.out).mono ?_); rintro e w93 ⟨rfl, hb⟩; have n0_ := Aside0.mk (below_step (by repeat (first | (with_reducible first | exact HB.out | apply below_alloc | apply pw_below_drewN | apply below_drew1) | exact HB.out)) hb); clear HB; have HB := n0_; clear n0_; (try clear hb); (try clear hb2); (try clear hk); (try clear hi)))
                      go_ret
                      (try (have e_ := eA30.out; subst e_))
                      (try (have e_ := eA270.out; subst e_))
                      (try (have e_ := eA290.out; subst e_))
                      (try (have e_ := eA700.out; subst e_))
                      (try (have e_ := eA720.out; subst e_))
                      (try (have e_ := eA870.out; subst e_))
                      (try (have e_ := eA890.out; subst e_))
                      exact ⟨by first | rfl | (simp [errW_none, errW_some] <;> rfl) | (simp [*, errW_none, errW_some] <;> rfl), by repeat (first | (with_reducible first | exact HB.out | apply below_alloc | apply pw_below_drewN | apply below_drew1) | exact HB.out)⟩
                    · replace c88 := Bool.eq_false_iff.mpr c88
                      subst c88
                      have H1 : (some true) = some r := by rw [if_neg (show ¬ (false = true) by decide)] at H; exact H
                      clear H
                      have H := H1
                      clear H1
                      obtain rfl := Option.some.inj H
                      go_wp2_with (first | ((with_reducible refine gate_callee (f := 17) rfl ?_); refine goesL_ (some 35) rfl rfl Try.func17 (by kernel_rfl) rfl #[.int .i64 a0] rfl (by (try simp only [List.map_toArray, List.map_cons, List.map_nil]); first | done | rfl | (simp only [List.length_drop, List.length_take]; rfl)) ?_; (with_reducible refine (role_Is.calls a0 true _ A27.out).mono ?_); rintro e w' ⟨rfl, ⟨nd, rfl⟩⟩; refine ⟨_, rfl, ?_⟩) | (go_at_call 18; (with_reducible refine (role_May.calls 0 a1 false _ A29.out).mono ?_); rintro e w94 ⟨rfl, hb⟩; have n0_ := Aside0.mk (below_step (by repeat (first | (with_reducible first | exact HB.out | apply below_alloc | apply pw_below_drewN | apply below_drew1) | exact HB.out)) hb); clear HB; have HB := n0_; clear n0_; (try clear hb); (try clear hb2); (try clear hk); (try clear hi)) | (go_at_call 18; (with_reducible refine (role_May.calls 2 a1 t206 _ A70.out).mono ?_); rintro e w95 ⟨rfl, hb⟩; have n0_ := Aside0.mk (below_step (by repeat (first | (with_reducible first | exact HB.out | apply below_alloc | apply pw_below_drewN | apply below_drew1) | exact HB.out)) hb); clear HB; have HB := n0_; clear n0_; (try clear hb); (try clear hb2); (try clear hk); (try clear hi)) | (go_at_call 19; (with_reducible refine (role_Turns.calls a1 false _ A72.out).mono ?_); rintro e w' ⟨rfl, ⟨nd, rfl⟩⟩) | (go_at_call 18; (with_reducible refine (role_May.calls 1 a1 false _ A87.out).mono ?_); rintro e w96 ⟨rfl, hb⟩; have n0_ := Aside0.mk (below_step (by repeat (first | (with_reducible first | exact HB.out | apply below_alloc | apply pw_below_drewN | apply below_drew1) | exact HB.out)) hb); clear HB; have HB := n0_; clear n0_; (try clear hb); (try clear hb2); (try clear hk); (try clear hi)))
                      go_ret
                      (try (have e_ := eA30.out; subst e_))
                      (try (have e_ := eA270.out; subst e_))
                      (try (have e_ := eA290.out; subst e_))
                      (try (have e_ := eA700.out; subst e_))
                      (try (have e_ := eA720.out; subst e_))
                      (try (have e_ := eA870.out; subst e_))
                      exact ⟨by first | rfl | (simp [errW_none, errW_some] <;> rfl) | (simp [*, errW_none, errW_some] <;> rfl), by repeat (first | (with_reducible first | exact HB.out | apply below_alloc | apply pw_below_drewN | apply below_drew1) | exact HB.out)⟩
                · rw [if_neg c71] at H
                  have c71b0 : (t206 == x6_24) = false := by simpa using c71
                  (try (have c71b1 : decide (t206 = x6_24) = false := by simpa using c71))
                  (try (have c71b2 : (t206 == x6_24) = false := by simpa using c71))
                  (try (have c71b3 : ¬ (t206 = x6_24) := by simpa using c71))
                  clear c71
                  obtain rfl := Option.some.inj H
                  go_wp2_with (first | ((with_reducible refine gate_callee (f := 17) rfl ?_); refine goesL_ (some 35) rfl rfl Try.func17 (by kernel_rfl) rfl #[.int .i64 a0] rfl (by (try simp only [List.map_toArray, List.map_cons, List.map_nil]); first | done | rfl | (simp only [List.length_drop, List.length_take]; rfl)) ?_; (with_reducible refine (role_Is.calls a0 true _ A27.out).mono ?_); rintro e w' ⟨rfl, ⟨nd, rfl⟩⟩; refine ⟨_, rfl, ?_⟩) | (go_at_call 18; (with_reducible refine (role_May.calls 0 a1 false _ A29.out).mono ?_); rintro e w97 ⟨rfl, hb⟩; have n0_ := Aside0.mk (below_step (by repeat (first | (with_reducible first | exact HB.out | apply below_alloc | apply pw_below_drewN | apply below_drew1) | exact HB.out)) hb); clear HB; have HB := n0_; clear n0_; (try clear hb); (try clear hb2); (try clear hk); (try clear hi)) | (go_at_call 18; (with_reducible refine (role_May.calls 2 a1 t206 _ A70.out).mono ?_); rintro e w98 ⟨rfl, hb⟩; have n0_ := Aside0.mk (below_step (by repeat (first | (with_reducible first | exact HB.out | apply below_alloc | apply pw_below_drewN | apply below_drew1) | exact HB.out)) hb); clear HB; have HB := n0_; clear n0_; (try clear hb); (try clear hb2); (try clear hk); (try clear hi)))
                  go_ret
                  (try (have e_ := eA30.out; subst e_))
                  (try (have e_ := eA270.out; subst e_))
                  (try (have e_ := eA290.out; subst e_))
                  (try (have e_ := eA700.out; subst e_))
                  exact ⟨by first | rfl | (simp [errW_none, errW_some] <;> rfl) | (simp [*, errW_none, errW_some] <;> rfl), by repeat (first | (with_reducible first | exact HB.out | apply below_alloc | apply pw_below_drewN | apply below_drew1) | exact HB.out)⟩
            · replace c28 := Bool.eq_false_iff.mpr c28
              subst c28
              have H1 : ((role_May.f 2 a1).bind fun t212 => (if (t212 == x6_24) = true then ((role_Turns.f a1).bind fun t213 => (if t213 = true then (if x6_24 = true then ((role_May.f 1 a1).bind fun t214 => (if t214 = true then ((role_May.f 2 a1).bind fun t215 => (some t215)) else (some true))) else (some false)) else ((role_May.f 1 a1).bind fun t216 => (if t216 = true then ((role_May.f 2 a1).bind fun t217 => (some t217)) else (some true))))) else (some false))) = some r := by rw [if_neg (show ¬ (false = true) by decide)] at H; exact H
              clear H
              have H := H1
              clear H1
              replace H := Option.bind_eq_some_iff.mp H
              obtain ⟨t212, A990, H⟩ := H
              (try (have eA990 := Aside0.mk (Option.some.inj ((show Aside0 (_ = some _) by assumption).out.symm.trans A990))))
              replace H : (if (t212 == x6_24) = true then ((role_Turns.f a1).bind fun t213 => (if t213 = true then (if x6_24 = true then ((role_May.f 1 a1).bind fun t214 => (if t214 = true then ((role_May.f 2 a1).bind fun t215 => (some t215)) else (some true))) else (some false)) else ((role_May.f 1 a1).bind fun t216 => (if t216 = true then ((role_May.f 2 a1).bind fun t217 => (some t217)) else (some true))))) else (some false)) = some r := H
              have A99 := Aside0.mk A990
              clear A990
              by_cases c100 : (t212 == x6_24) = true
              · rw [if_pos c100] at H
                have c100b0 : (t212 == x6_24) = true := c100
                (try (have c100b1 : decide (t212 = x6_24) = true := by simpa using c100))
                (try (have c100b2 : (t212 == x6_24) = true := by simpa using c100))
                clear c100
                replace H := Option.bind_eq_some_iff.mp H
                obtain ⟨t213, A1010, H⟩ := H
                (try (have eA1010 := Aside0.mk (Option.some.inj ((show Aside0 (_ = some _) by assumption).out.symm.trans A1010))))
                replace H : (if t213 = true then (if x6_24 = true then ((role_May.f 1 a1).bind fun t214 => (if t214 = true then ((role_May.f 2 a1).bind fun t215 => (some t215)) else (some true))) else (some false)) else ((role_May.f 1 a1).bind fun t216 => (if t216 = true then ((role_May.f 2 a1).bind fun t217 => (some t217)) else (some true)))) = some r := H
                have A101 := Aside0.mk A1010
                clear A1010
                by_cases c102 : t213 = true
                · subst c102
                  have H1 : (if x6_24 = true then ((role_May.f 1 a1).bind fun t214 => (if t214 = true then ((role_May.f 2 a1).bind fun t215 => (some t215)) else (some true))) else (some false)) = some r := by rw [if_pos rfl] at H; exact H
                  clear H
                  have H := H1
                  clear H1
                  by_cases c103 : x6_24 = true
                  · subst c103
                    have H1 : ((role_May.f 1 a1).bind fun t214 => (if t214 = true then ((role_May.f 2 a1).bind fun t215 => (some t215)) else (some true))) = some r := by rw [if_pos rfl] at H; exact H
                    clear H
                    have H := H1
                    clear H1
                    replace H := Option.bind_eq_some_iff.mp H
                    obtain ⟨t214, A1040, H⟩ := H
                    (try (have eA1040 := Aside0.mk (Option.some.inj ((show Aside0 (_ = some _) by assumption).out.symm.trans A1040))))
                    replace H : (if t214 = true then ((role_May.f 2 a1).bind fun t215 => (some t215)) else (some true)) = some r := H
                    have A104 := Aside0.mk A1040
                    clear A1040
                    by_cases c105 : t214 = true
                    · subst c105
                      have H1 : ((role_May.f 2 a1).bind fun t215 => (some t215)) = some r := by rw [if_pos rfl] at H; exact H
                      clear H
                      have H := H1
                      clear H1
                      replace H := Option.bind_eq_some_iff.mp H
                      obtain ⟨t215, A1060, H⟩ := H
                      (try (have eA1060 := Aside0.mk (Option.some.inj ((show Aside0 (_ = some _) by assumption).out.symm.trans A1060))))
                      replace H : (some t215) = some r := H
                      have A106 := Aside0.mk A1060
                      clear A1060
                      obtain rfl := Option.some.inj H
                      go_wp2_with (first | ((with_reducible refine gate_callee (f := 17) rfl ?_); refine goesL_ (some 35) rfl rfl Try.func17 (by kernel_rfl) rfl #[.int .i64 a0] rfl (by (try simp only [List.map_toArray, List.map_cons, List.map_nil]); first | done | rfl | (simp only [List.length_drop, List.length_take]; rfl)) ?_; (with_reducible refine (role_Is.calls a0 false _ A27.out).mono ?_); rintro e w' ⟨rfl, ⟨nd, rfl⟩⟩; refine ⟨_, rfl, ?_⟩) | (go_at_call 18; (with_reducible refine (role_May.calls 2 a1 t212 _ A99.out).mono ?_); rintro e w107 ⟨rfl, hb⟩; have n0_ := Aside0.mk (below_step (by repeat (first | (with_reducible first | exact HB.out | apply below_alloc | apply pw_below_drewN | apply below_drew1) | exact HB.out)) hb); clear HB; have HB := n0_; clear n0_; (try clear hb); (try clear hb2); (try clear hk); (try clear hi)) | (go_at_call 19; (with_reducible refine (role_Turns.calls a1 true _ A101.out).mono ?_); rintro e w' ⟨rfl, ⟨nd, rfl⟩⟩) | (go_at_call 18; (with_reducible refine (role_May.calls 1 a1 true _ A104.out).mono ?_); rintro e w108 ⟨rfl, hb⟩; have n0_ := Aside0.mk (below_step (by repeat (first | (with_reducible first | exact HB.out | apply below_alloc | apply pw_below_drewN | apply below_drew1) | exact HB.out)) hb); clear HB; have HB := n0_; clear n0_; (try clear hb); (try clear hb2); (try clear hk); (try clear hi)) | (go_at_call 18; (with_reducible refine (role_May.calls 2 a1 t215 _ A106.out).mono ?_); rintro e w109 ⟨rfl, hb⟩; have n0_ := Aside0.mk (below_step (by repeat (first | (with_reducible first | exact HB.out | apply below_alloc | apply pw_below_drewN | apply below_drew1) | exact HB.out)) hb); clear HB; have HB := n0_; clear n0_; (try clear hb); (try clear hb2); (try clear hk); (try clear hi)))
                      go_ret
                      (try (have e_ := eA30.out; subst e_))
                      (try (have e_ := eA270.out; subst e_))
                      (try (have e_ := eA990.out; subst e_))
                      (try (have e_ := eA1010.out; subst e_))
                      (try (have e_ := eA1040.out; subst e_))
                      (try (have e_ := eA1060.out; subst e_))
                      exact ⟨by first | rfl | (simp [errW_none, errW_some] <;> rfl) | (simp [*, errW_none, errW_some] <;> rfl), by repeat (first | (with_reducible first | exact HB.out | apply below_alloc | apply pw_below_drewN | apply below_drew1) | exact HB.out)⟩
                    · replace c105 := Bool.eq_false_iff.mpr c105
                      subst c105
                      have H1 : (some true) = some r := by rw [if_neg (show ¬ (false = true) by decide)] at H; exact H
                      clear H
                      have H := H1
                      clear H1
                      obtain rfl := Option.some.inj H
                      go_wp2_with (first | ((with_reducible refine gate_callee (f := 17) rfl ?_); refine goesL_ (some 35) rfl rfl Try.func17 (by kernel_rfl) rfl #[.int .i64 a0] rfl (by (try simp only [List.map_toArray, List.map_cons, List.map_nil]); first | done | rfl | (simp only [List.length_drop, List.length_take]; rfl)) ?_; (with_reducible refine (role_Is.calls a0 false _ A27.out).mono ?_); rintro e w' ⟨rfl, ⟨nd, rfl⟩⟩; refine ⟨_, rfl, ?_⟩) | (go_at_call 18; (with_reducible refine (role_May.calls 2 a1 t212 _ A99.out).mono ?_); rintro e w110 ⟨rfl, hb⟩; have n0_ := Aside0.mk (below_step (by repeat (first | (with_reducible first | exact HB.out | apply below_alloc | apply pw_below_drewN | apply below_drew1) | exact HB.out)) hb); clear HB; have HB := n0_; clear n0_; (try clear hb); (try clear hb2); (try clear hk); (try clear hi)) | (go_at_call 19; (with_reducible refine (role_Turns.calls a1 true _ A101.out).mono ?_); rintro e w' ⟨rfl, ⟨nd, rfl⟩⟩) | (go_at_call 18; (with_reducible refine (role_May.calls 1 a1 false _ A104.out).mono ?_); rintro e w111 ⟨rfl, hb⟩; have n0_ := Aside0.mk (below_step (by repeat (first | (with_reducible first | exact HB.out | apply below_alloc | apply pw_below_drewN | apply below_drew1) | exact HB.out)) hb); clear HB; have HB := n0_; clear n0_; (try clear hb); (try clear hb2); (try clear hk); (try clear hi)))
                      go_ret
                      (try (have e_ := eA30.out; subst e_))
                      (try (have e_ := eA270.out; subst e_))
                      (try (have e_ := eA990.out; subst e_))
                      (try (have e_ := eA1010.out; subst e_))
                      (try (have e_ := eA1040.out; subst e_))
                      exact ⟨by first | rfl | (simp [errW_none, errW_some] <;> rfl) | (simp [*, errW_none, errW_some] <;> rfl), by repeat (first | (with_reducible first | exact HB.out | apply below_alloc | apply pw_below_drewN | apply below_drew1) | exact HB.out)⟩
                  · replace c103 := Bool.eq_false_iff.mpr c103
                    subst c103
                    have H1 : (some false) = some r := by rw [if_neg (show ¬ (false = true) by decide)] at H; exact H
                    clear H
                    have H := H1
                    clear H1
                    obtain rfl := Option.some.inj H
                    go_wp2_with (first | ((with_reducible refine gate_callee (f := 17) rfl ?_); refine goesL_ (some 35) rfl rfl Try.func17 (by kernel_rfl) rfl #[.int .i64 a0] rfl (by (try simp only [List.map_toArray, List.map_cons, List.map_nil]); first | done | rfl | (simp only [List.length_drop, List.length_take]; rfl)) ?_; (with_reducible refine (role_Is.calls a0 false _ A27.out).mono ?_); rintro e w' ⟨rfl, ⟨nd, rfl⟩⟩; refine ⟨_, rfl, ?_⟩) | (go_at_call 18; (with_reducible refine (role_May.calls 2 a1 t212 _ A99.out).mono ?_); rintro e w112 ⟨rfl, hb⟩; have n0_ := Aside0.mk (below_step (by repeat (first | (with_reducible first | exact HB.out | apply below_alloc | apply pw_below_drewN | apply below_drew1) | exact HB.out)) hb); clear HB; have HB := n0_; clear n0_; (try clear hb); (try clear hb2); (try clear hk); (try clear hi)) | (go_at_call 19; (with_reducible refine (role_Turns.calls a1 true _ A101.out).mono ?_); rintro e w' ⟨rfl, ⟨nd, rfl⟩⟩))
                    go_ret
                    (try (have e_ := eA30.out; subst e_))
                    (try (have e_ := eA270.out; subst e_))
                    (try (have e_ := eA990.out; subst e_))
                    (try (have e_ := eA1010.out; subst e_))
                    exact ⟨by first | rfl | (simp [errW_none, errW_some] <;> rfl) | (simp [*, errW_none, errW_some] <;> rfl), by repeat (first | (with_reducible first | exact HB.out | apply below_alloc | apply pw_below_drewN | apply below_drew1) | exact HB.out)⟩
                · replace c102 := Bool.eq_false_iff.mpr c102
                  subst c102
                  have H1 : ((role_May.f 1 a1).bind fun t216 => (if t216 = true then ((role_May.f 2 a1).bind fun t217 => (some t217)) else (some true))) = some r := by rw [if_neg (show ¬ (false = true) by decide)] at H; exact H
                  clear H
                  have H := H1
                  clear H1
                  replace H := Option.bind_eq_some_iff.mp H
                  obtain ⟨t216, A1130, H⟩ := H
                  (try (have eA1130 := Aside0.mk (Option.some.inj ((show Aside0 (_ = some _) by assumption).out.symm.trans A1130))))
                  replace H : (if t216 = true then ((role_May.f 2 a1).bind fun t217 => (some t217)) else (some true)) = some r := H
                  have A113 := Aside0.mk A1130
                  clear A1130
                  by_cases c114 : t216 = true
                  · subst c114
                    have H1 : ((role_May.f 2 a1).bind fun t217 => (some t217)) = some r := by rw [if_pos rfl] at H; exact H
                    clear H
                    have H := H1
                    clear H1
                    replace H := Option.bind_eq_some_iff.mp H
                    obtain ⟨t217, A1150, H⟩ := H
                    (try (have eA1150 := Aside0.mk (Option.some.inj ((show Aside0 (_ = some _) by assumption).out.symm.trans A1150))))
                    replace H : (some t217) = some r := H
                    have A115 := Aside0.mk A1150
                    clear A1150
                    obtain rfl := Option.some.inj H
                    go_wp2_with (first | ((with_reducible refine gate_callee (f := 17) rfl ?_); refine goesL_ (some 35) rfl rfl Try.func17 (by kernel_rfl) rfl #[.int .i64 a0] rfl (by (try simp only [List.map_toArray, List.map_cons, List.map_nil]); first | done | rfl | (simp only [List.length_drop, List.length_take]; rfl)) ?_; (with_reducible refine (role_Is.calls a0 false _ A27.out).mono ?_); rintro e w' ⟨rfl, ⟨nd, rfl⟩⟩; refine ⟨_, rfl, ?_⟩) | (go_at_call 18; (with_reducible refine (role_May.calls 2 a1 t212 _ A99.out).mono ?_); rintro e w116 ⟨rfl, hb⟩; have n0_ := Aside0.mk (below_step (by repeat (first | (with_reducible first | exact HB.out | apply below_alloc | apply pw_below_drewN | apply below_drew1) | exact HB.out)) hb); clear HB; have HB := n0_; clear n0_; (try clear hb); (try clear hb2); (try clear hk); (try clear hi)) | (go_at_call 19; (with_reducible refine (role_Turns.calls a1 false _ A101.out).mono ?_); rintro e w' ⟨rfl, ⟨nd, rfl⟩⟩) | (go_at_call 18; (with_reducible refine (role_May.calls 1 a1 true _ A113.out).mono ?_); rintro e w117 ⟨rfl, hb⟩; have n0_ := Aside0.mk (below_step (by repeat (first | (with_reducible first | exact HB.out | apply below_alloc | apply pw_below_drewN | apply below_drew1) | exact HB.out)) hb); clear HB; have HB := n0_; clear n0_; (try clear hb); (try clear hb2); (try clear hk); (try clear hi)) | (go_at_call 18; (with_reducible refine (role_May.calls 2 a1 t217 _ A115.out).mono ?_); rintro e w118 ⟨rfl, hb⟩; have n0_ := Aside0.mk (below_step (by repeat (first | (with_reducible first | exact HB.out | apply below_alloc | apply pw_below_drewN | apply below_drew1) | exact HB.out)) hb); clear HB; have HB := n0_; clear n0_; (try clear hb); (try clear hb2); (try clear hk); (try clear hi)))
                    go_ret
                    (try (have e_ := eA30.out; subst e_))
                    (try (have e_ := eA270.out; subst e_))
                    (try (have e_ := eA990.out; subst e_))
                    (try (have e_ := eA1010.out; subst e_))
                    (try (have e_ := eA1130.out; subst e_))
                    (try (have e_ := eA1150.out; subst e_))
                    exact ⟨by first | rfl | (simp [errW_none, errW_some] <;> rfl) | (simp [*, errW_none, errW_some] <;> rfl), by repeat (first | (with_reducible first | exact HB.out | apply below_alloc | apply pw_below_drewN | apply below_drew1) | exact HB.out)⟩
                  · replace c114 := Bool.eq_false_iff.mpr c114
                    subst c114
                    have H1 : (some true) = some r := by rw [if_neg (show ¬ (false = true) by decide)] at H; exact H
                    clear H
                    have H := H1
                    clear H1
                    obtain rfl := Option.some.inj H
                    go_wp2_with (first | ((with_reducible refine gate_callee (f := 17) rfl ?_); refine goesL_ (some 35) rfl rfl Try.func17 (by kernel_rfl) rfl #[.int .i64 a0] rfl (by (try simp only [List.map_toArray, List.map_cons, List.map_nil]); first | done | rfl | (simp only [List.length_drop, List.length_take]; rfl)) ?_; (with_reducible refine (role_Is.calls a0 false _ A27.out).mono ?_); rintro e w' ⟨rfl, ⟨nd, rfl⟩⟩; refine ⟨_, rfl, ?_⟩) | (go_at_call 18; (with_reducible refine (role_May.calls 2 a1 t212 _ A99.out).mono ?_); rintro e w119 ⟨rfl, hb⟩; have n0_ := Aside0.mk (below_step (by repeat (first | (with_reducible first | exact HB.out | apply below_alloc | apply pw_below_drewN | apply below_drew1) | exact HB.out)) hb); clear HB; have HB := n0_; clear n0_; (try clear hb); (try clear hb2); (try clear hk); (try clear hi)) | (go_at_call 19; (with_reducible refine (role_Turns.calls a1 false _ A101.out).mono ?_); rintro e w' ⟨rfl, ⟨nd, rfl⟩⟩) | (go_at_call 18; (with_reducible refine (role_May.calls 1 a1 false _ A113.out).mono ?_); rintro e w120 ⟨rfl, hb⟩; have n0_ := Aside0.mk (below_step (by repeat (first | (with_reducible first | exact HB.out | apply below_alloc | apply pw_below_drewN | apply below_drew1) | exact HB.out)) hb); clear HB; have HB := n0_; clear n0_; (try clear hb); (try clear hb2); (try clear hk); (try clear hi)))
                    go_ret
                    (try (have e_ := eA30.out; subst e_))
                    (try (have e_ := eA270.out; subst e_))
                    (try (have e_ := eA990.out; subst e_))
                    (try (have e_ := eA1010.out; subst e_))
                    (try (have e_ := eA1130.out; subst e_))
                    exact ⟨by first | rfl | (simp [errW_none, errW_some] <;> rfl) | (simp [*, errW_none, errW_some] <;> rfl), by repeat (first | (with_reducible first | exact HB.out | apply below_alloc | apply pw_below_drewN | apply below_drew1) | exact HB.out)⟩
              · rw [if_neg c100] at H
                have c100b0 : (t212 == x6_24) = false := by simpa using c100
                (try (have c100b1 : decide (t212 = x6_24) = false := by simpa using c100))
                (try (have c100b2 : (t212 == x6_24) = false := by simpa using c100))
                (try (have c100b3 : ¬ (t212 = x6_24) := by simpa using c100))
                clear c100
                obtain rfl := Option.some.inj H
                go_wp2_with (first | ((with_reducible refine gate_callee (f := 17) rfl ?_); refine goesL_ (some 35) rfl rfl Try.func17 (by kernel_rfl) rfl #[.int .i64 a0] rfl (by (try simp only [List.map_toArray, List.map_cons, List.map_nil]); first | done | rfl | (simp only [List.length_drop, List.length_take]; rfl)) ?_; (with_reducible refine (role_Is.calls a0 false _ A27.out).mono ?_); rintro e w' ⟨rfl, ⟨nd, rfl⟩⟩; refine ⟨_, rfl, ?_⟩) | (go_at_call 18; (with_reducible refine (role_May.calls 2 a1 t212 _ A99.out).mono ?_); rintro e w121 ⟨rfl, hb⟩; have n0_ := Aside0.mk (below_step (by repeat (first | (with_reducible first | exact HB.out | apply below_alloc | apply pw_below_drewN | apply below_drew1) | exact HB.out)) hb); clear HB; have HB := n0_; clear n0_; (try clear hb); (try clear hb2); (try clear hk); (try clear hi)))
                go_ret
                (try (have e_ := eA30.out; subst e_))
                (try (have e_ := eA270.out; subst e_))
                (try (have e_ := eA990.out; subst e_))
                exact ⟨by first | rfl | (simp [errW_none, errW_some] <;> rfl) | (simp [*, errW_none, errW_some] <;> rfl), by repeat (first | (with_reducible first | exact HB.out | apply below_alloc | apply pw_below_drewN | apply below_drew1) | exact HB.out)⟩

/-- THE ONE PURE STATEMENT of pelicanlaw07_RoleLess: yours. -/
def pelicanlaw07_RoleLess.Pure : Prop := ∀ (a0 : Int) (a1 : Int), (Lit.int .i64 a0).wf = true → (Lit.int .i64 a1).wf = true → ∃ k, pelicanlaw07_RoleLess.f k a0 a1 = some true
theorem pelicanlaw07_RoleLess.walk (P : pelicanlaw07_RoleLess.Pure) (a0 : Int) (a1 : Int) (w : World) (w0 : (Lit.int .i64 a0).wf = true) (w1 : (Lit.int .i64 a1).wf = true) :
    Calls Try.prog 6 #[.int .i64 a0, .int .i64 a1] w fun e w' => e = .returned (.bool true) ∧ Below w.heap.size w w' := by
  obtain ⟨k, h⟩ := P a0 a1 w0 w1
  refine (pelicanlaw07_RoleLess.calls k a0 a1 true w h).mono ?_
  rintro e w' ⟨rfl, hd⟩
  exact ⟨rfl, hd⟩

/-! ### pelicanlaw07_RoleRed: function 7 -/
def pelicanlaw07_RoleRed.j0 : Nat → Int → Bool → Bool → Option (Bool)
  | 0, _, _, _ => none
  | k + 1, x0, x3, x4 => if x3 = true then (if (x4 == (x0 == 2)) = true then ((role_May.f x0 5).bind fun t221 => ((role_May.f x0 6).bind fun t222 => (if (t221 == t222) = true then ((role_May.f 3 5).bind fun t223 => (if t223 = true then ((role_May.f 3 4).bind fun t224 => (some (!t224))) else (some false))) else (some false)))) else (some false)) else (some false)
def pelicanlaw07_RoleRed.f (k : Nat) (a0 : Int) : Option (Bool) := (pelicanlaw07_awake.f k).bind fun t218 => ((role_May.f a0 1).bind fun t219 => (if t219 = true then ((role_May.f a0 5).bind fun t220 => (pelicanlaw07_RoleRed.j0 k a0 t218 t220)) else (pelicanlaw07_RoleRed.j0 k a0 t218 false)))
theorem pelicanlaw07_RoleRed.mono_l : ∀ k, (∀ y0 y1 y2, LeO (pelicanlaw07_RoleRed.j0 k y0 y1 y2) (pelicanlaw07_RoleRed.j0 (k + 1) y0 y1 y2))
  | 0 => fun _ _ _ r h => by simp [pelicanlaw07_RoleRed.j0] at h
  | k + 1 => by
    have ih0 := pelicanlaw07_RoleRed.mono_l k
    · intro y0 y1 y2
      unfold pelicanlaw07_RoleRed.j0
      repeat' first
      | (with_reducible exact ih0 _ _ _)
      | (with_reducible exact pelicanlaw07_awake.mono _)
      | (with_reducible exact LeO.refl _)
      | (with_reducible exact LeO.none _)
      | (with_reducible refine LeO.ite ?_ ?_)
      | (with_reducible refine LeO.bind ?_ (fun _ => ?_))
      | exact ih0 _ _ _
      | exact pelicanlaw07_awake.mono _
      | exact LeO.none _
      | refine LeO.ite ?_ ?_
      | refine LeO.bind ?_ (fun _ => ?_)
theorem pelicanlaw07_RoleRed.mono : ∀ a0 k, LeO (pelicanlaw07_RoleRed.f k a0) (pelicanlaw07_RoleRed.f (k + 1) a0) := by
  intro a0 k
  have ih0 := pelicanlaw07_RoleRed.mono_l k
  unfold pelicanlaw07_RoleRed.f
  repeat' first
      | (with_reducible exact ih0 _ _ _)
      | (with_reducible exact pelicanlaw07_awake.mono _)
      | (with_reducible exact LeO.refl _)
      | (with_reducible exact LeO.none _)
      | (with_reducible refine LeO.ite ?_ ?_)
      | (with_reducible refine LeO.bind ?_ (fun _ => ?_))
      | exact ih0 _ _ _
      | exact pelicanlaw07_awake.mono _
      | exact LeO.none _
      | refine LeO.ite ?_ ?_
      | refine LeO.bind ?_ (fun _ => ?_)
set_option maxHeartbeats 8000000 in
set_option maxRecDepth 100000 in
theorem pelicanlaw07_RoleRed.calls (k : Nat) (a0 : Int) (r : Bool) (w : World) (h : pelicanlaw07_RoleRed.f k a0 = some r) :
    Calls Try.prog 7 #[.int .i64 a0] w fun e w' => e = .returned (.bool r) ∧ Below w.heap.size w w' := by
  have HB := Aside0.mk (Below.refl w.heap.size w)
  have H : ((pelicanlaw07_awake.f k).bind fun t218 => ((role_May.f a0 1).bind fun t219 => (if t219 = true then ((role_May.f a0 5).bind fun t220 => (pelicanlaw07_RoleRed.j0 k a0 t218 t220)) else (pelicanlaw07_RoleRed.j0 k a0 t218 false)))) = some r := h
  clear h
  replace H := Option.bind_eq_some_iff.mp H
  obtain ⟨t218, A20, H⟩ := H
  (try (have eA20 := Aside0.mk (Option.some.inj ((show Aside0 (_ = some _) by assumption).out.symm.trans A20))))
  replace H : ((role_May.f a0 1).bind fun t219 => (if t219 = true then ((role_May.f a0 5).bind fun t220 => (pelicanlaw07_RoleRed.j0 k a0 t218 t220)) else (pelicanlaw07_RoleRed.j0 k a0 t218 false))) = some r := H
  have A2 := Aside0.mk A20
  clear A20
  have HC3 := Aside0.mk H
  clear H
  go_enter Try.func7, Try.ntmps7
  go_upto_region 2 with (first | ((with_reducible refine gate_callee (f := 8) rfl ?_); refine goesL_ (some 5) rfl rfl Try.func8 (by kernel_rfl) rfl #[] rfl (by (try simp only [List.map_toArray, List.map_cons, List.map_nil]); first | done | rfl | (simp only [List.length_drop, List.length_take]; rfl)) ?_; (with_reducible refine (pelicanlaw07_awake.calls k  t218 _ A2.out).mono ?_); rintro e w4 ⟨rfl, hb⟩; refine ⟨_, rfl, ?_⟩; have n0_ := Aside0.mk (below_step (by repeat (first | (with_reducible first | exact HB.out | apply below_alloc | apply pw_below_drewN | apply below_drew1) | exact HB.out)) hb); clear HB; have HB := n0_; clear n0_; (try clear hb); (try clear hb2); (try clear hk); (try clear hi)))
  (try simp only [Act.put, List.setIfInBounds_toArray, List.set_cons_zero, List.set_cons_succ])
  go_cut [4] (fun v4 wc => ∃ (kq : Nat) (x4_2 : Bool), v4 = .bool x4_2 ∧ Aside0 (pelicanlaw07_RoleRed.j0 kq a0 t218 x4_2 = some r) ∧ Aside0 (kq ≤ k) ∧ Aside0 (Below w.heap.size w wc))
  case first =>
    have H := HC3.out
    clear HC3
    replace H := Option.bind_eq_some_iff.mp H
    obtain ⟨t219, A50, H⟩ := H
    (try (have eA50 := Aside0.mk (Option.some.inj ((show Aside0 (_ = some _) by assumption).out.symm.trans A50))))
    replace H : (if t219 = true then ((role_May.f a0 5).bind fun t220 => (pelicanlaw07_RoleRed.j0 k a0 t218 t220)) else (pelicanlaw07_RoleRed.j0 k a0 t218 false)) = some r := H
    have A5 := Aside0.mk A50
    clear A50
    by_cases c6 : t219 = true
    · subst c6
      have H1 : ((role_May.f a0 5).bind fun t220 => (pelicanlaw07_RoleRed.j0 k a0 t218 t220)) = some r := by rw [if_pos rfl] at H; exact H
      clear H
      have H := H1
      clear H1
      replace H := Option.bind_eq_some_iff.mp H
      obtain ⟨t220, A70, H⟩ := H
      (try (have eA70 := Aside0.mk (Option.some.inj ((show Aside0 (_ = some _) by assumption).out.symm.trans A70))))
      replace H : (pelicanlaw07_RoleRed.j0 k a0 t218 t220) = some r := H
      have A7 := Aside0.mk A70
      clear A70
      have H' := Aside0.mk H
      clear H
      go_wp2_with (first | ((with_reducible refine gate_callee (f := 18) rfl ?_); refine goesL_ (some 7) rfl rfl Try.func18 (by kernel_rfl) rfl #[.int .i64 a0, .int .i64 1] rfl (by (try simp only [List.map_toArray, List.map_cons, List.map_nil]); first | done | rfl | (simp only [List.length_drop, List.length_take]; rfl)) ?_; (with_reducible refine (role_May.calls a0 1 true _ A5.out).mono ?_); rintro e w8 ⟨rfl, hb⟩; refine ⟨_, rfl, ?_⟩; have n0_ := Aside0.mk (below_step (by repeat (first | (with_reducible first | exact HB.out | apply below_alloc | apply pw_below_drewN | apply below_drew1) | exact HB.out)) hb); clear HB; have HB := n0_; clear n0_; (try clear hb); (try clear hb2); (try clear hk); (try clear hi)) | (go_at_call 18; (with_reducible refine (role_May.calls a0 5 t220 _ A7.out).mono ?_); rintro e w9 ⟨rfl, hb⟩; have n0_ := Aside0.mk (below_step (by repeat (first | (with_reducible first | exact HB.out | apply below_alloc | apply pw_below_drewN | apply below_drew1) | exact HB.out)) hb); clear HB; have HB := n0_; clear n0_; (try clear hb); (try clear hb2); (try clear hk); (try clear hi)))
      go_meet
      case rel => exact ⟨_, (t220), (by first | rfl | (simp; done) | (simp [*]; done)), H', ⟨by first | omega | exact Nat.le_refl _⟩, ⟨by repeat (first | (with_reducible first | exact HB.out | apply below_alloc | apply pw_below_drewN | apply below_drew1) | exact HB.out)⟩⟩
    · replace c6 := Bool.eq_false_iff.mpr c6
      subst c6
      have H1 : (pelicanlaw07_RoleRed.j0 k a0 t218 false) = some r := by rw [if_neg (show ¬ (false = true) by decide)] at H; exact H
      clear H
      have H := H1
      clear H1
      have H' := Aside0.mk H
      clear H
      go_wp2_with (first | ((with_reducible refine gate_callee (f := 18) rfl ?_); refine goesL_ (some 7) rfl rfl Try.func18 (by kernel_rfl) rfl #[.int .i64 a0, .int .i64 1] rfl (by (try simp only [List.map_toArray, List.map_cons, List.map_nil]); first | done | rfl | (simp only [List.length_drop, List.length_take]; rfl)) ?_; (with_reducible refine (role_May.calls a0 1 false _ A5.out).mono ?_); rintro e w10 ⟨rfl, hb⟩; refine ⟨_, rfl, ?_⟩; have n0_ := Aside0.mk (below_step (by repeat (first | (with_reducible first | exact HB.out | apply below_alloc | apply pw_below_drewN | apply below_drew1) | exact HB.out)) hb); clear HB; have HB := n0_; clear n0_; (try clear hb); (try clear hb2); (try clear hk); (try clear hi)))
      go_meet
      case rel => exact ⟨_, (false), (by first | rfl | (simp; done) | (simp [*]; done)), H', ⟨by first | omega | exact Nat.le_refl _⟩, ⟨by repeat (first | (with_reducible first | exact HB.out | apply below_alloc | apply pw_below_drewN | apply below_drew1) | exact HB.out)⟩⟩
  case rest =>
    clear HC3
    try clear c1
    try clear p2
    try clear c6
    try clear c7
    try clear c8
    obtain ⟨kq, x4_2, rfl, HA, HJ2, HB⟩ := hcut
    cases kq with
    | zero => exact absurd HA.out (by simp [pelicanlaw07_RoleRed.j0])
    | succ kj2 =>
      have H := HA.out
      clear HA
      simp only [pelicanlaw07_RoleRed.j0] at H
      by_cases c11 : t218 = true
      · subst c11
        have H1 : (if (x4_2 == (a0 == 2)) = true then ((role_May.f a0 5).bind fun t221 => ((role_May.f a0 6).bind fun t222 => (if (t221 == t222) = true then ((role_May.f 3 5).bind fun t223 => (if t223 = true then ((role_May.f 3 4).bind fun t224 => (some (!t224))) else (some false))) else (some false)))) else (some false)) = some r := by rw [if_pos rfl] at H; exact H
        clear H
        have H := H1
        clear H1
        by_cases c12 : (x4_2 == (a0 == 2)) = true
        · rw [if_pos c12] at H
          have c12b0 : (x4_2 == (a0 == 2)) = true := c12
          (try (have c12b1 : decide (x4_2 = (a0 == 2)) = true := by simpa using c12))
          (try (have c12b2 : (x4_2 == (a0 == 2)) = true := by simpa using c12))
          clear c12
          replace H := Option.bind_eq_some_iff.mp H
          obtain ⟨t221, A130, H⟩ := H
          (try (have eA130 := Aside0.mk (Option.some.inj ((show Aside0 (_ = some _) by assumption).out.symm.trans A130))))
          replace H : ((role_May.f a0 6).bind fun t222 => (if (t221 == t222) = true then ((role_May.f 3 5).bind fun t223 => (if t223 = true then ((role_May.f 3 4).bind fun t224 => (some (!t224))) else (some false))) else (some false))) = some r := H
          have A13 := Aside0.mk A130
          clear A130
          replace H := Option.bind_eq_some_iff.mp H
          obtain ⟨t222, A140, H⟩ := H
          (try (have eA140 := Aside0.mk (Option.some.inj ((show Aside0 (_ = some _) by assumption).out.symm.trans A140))))
          replace H : (if (t221 == t222) = true then ((role_May.f 3 5).bind fun t223 => (if t223 = true then ((role_May.f 3 4).bind fun t224 => (some (!t224))) else (some false))) else (some false)) = some r := H
          have A14 := Aside0.mk A140
          clear A140
          by_cases c15 : (t221 == t222) = true
          · rw [if_pos c15] at H
            have c15b0 : (t221 == t222) = true := c15
            (try (have c15b1 : decide (t221 = t222) = true := by simpa using c15))
            (try (have c15b2 : (t221 == t222) = true := by simpa using c15))
            clear c15
            replace H := Option.bind_eq_some_iff.mp H
            obtain ⟨t223, A160, H⟩ := H
            (try (have eA160 := Aside0.mk (Option.some.inj ((show Aside0 (_ = some _) by assumption).out.symm.trans A160))))
            replace H : (if t223 = true then ((role_May.f 3 4).bind fun t224 => (some (!t224))) else (some false)) = some r := H
            have A16 := Aside0.mk A160
            clear A160
            by_cases c17 : t223 = true
            · subst c17
              have H1 : ((role_May.f 3 4).bind fun t224 => (some (!t224))) = some r := by rw [if_pos rfl] at H; exact H
              clear H
              have H := H1
              clear H1
              replace H := Option.bind_eq_some_iff.mp H
              obtain ⟨t224, A180, H⟩ := H
              (try (have eA180 := Aside0.mk (Option.some.inj ((show Aside0 (_ = some _) by assumption).out.symm.trans A180))))
              replace H : (some (!t224)) = some r := H
              have A18 := Aside0.mk A180
              clear A180
              obtain rfl := Option.some.inj H
              go_wp2_with (first | (go_at_call 18; (with_reducible refine (role_May.calls a0 5 t221 _ A13.out).mono ?_); rintro e w19 ⟨rfl, hb⟩; have n0_ := Aside0.mk (below_step (by repeat (first | (with_reducible first | exact HB.out | apply below_alloc | apply pw_below_drewN | apply below_drew1) | exact HB.out)) hb); clear HB; have HB := n0_; clear n0_; (try clear hb); (try clear hb2); (try clear hk); (try clear hi)) | (go_at_call 18; (with_reducible refine (role_May.calls a0 6 t222 _ A14.out).mono ?_); rintro e w20 ⟨rfl, hb⟩; have n0_ := Aside0.mk (below_step (by repeat (first | (with_reducible first | exact HB.out | apply below_alloc | apply pw_below_drewN | apply below_drew1) | exact HB.out)) hb); clear HB; have HB := n0_; clear n0_; (try clear hb); (try clear hb2); (try clear hk); (try clear hi)) | (go_at_call 18; (with_reducible refine (role_May.calls 3 5 true _ A16.out).mono ?_); rintro e w21 ⟨rfl, hb⟩; have n0_ := Aside0.mk (below_step (by repeat (first | (with_reducible first | exact HB.out | apply below_alloc | apply pw_below_drewN | apply below_drew1) | exact HB.out)) hb); clear HB; have HB := n0_; clear n0_; (try clear hb); (try clear hb2); (try clear hk); (try clear hi)) | (go_at_call 18; (with_reducible refine (role_May.calls 3 4 t224 _ A18.out).mono ?_); rintro e w22 ⟨rfl, hb⟩; have n0_ := Aside0.mk (below_step (by repeat (first | (with_reducible first | exact HB.out | apply below_alloc | apply pw_below_drewN | apply below_drew1) | exact HB.out)) hb); clear HB; have HB := n0_; clear n0_; (try clear hb); (try clear hb2); (try clear hk); (try clear hi)))
              go_ret
              (try (have e_ := eA20.out; subst e_))
              (try (have e_ := eA130.out; subst e_))
              (try (have e_ := eA140.out; subst e_))
              (try (have e_ := eA160.out; subst e_))
              (try (have e_ := eA180.out; subst e_))
              exact ⟨by first | rfl | (simp [errW_none, errW_some] <;> rfl) | (simp [*, errW_none, errW_some] <;> rfl), by repeat (first | (with_reducible first | exact HB.out | apply below_alloc | apply pw_below_drewN | apply below_drew1) | exact HB.out)⟩
            · replace c17 := Bool.eq_false_iff.mpr c17
              subst c17
              have H1 : (some false) = some r := by rw [if_neg (show ¬ (false = true) by decide)] at H; exact H
              clear H
              have H := H1
              clear H1
              obtain rfl := Option.some.inj H
              go_wp2_with (first | (go_at_call 18; (with_reducible refine (role_May.calls a0 5 t221 _ A13.out).mono ?_); rintro e w23 ⟨rfl, hb⟩; have n0_ := Aside0.mk (below_step (by repeat (first | (with_reducible first | exact HB.out | apply below_alloc | apply pw_below_drewN | apply below_drew1) | exact HB.out)) hb); clear HB; have HB := n0_; clear n0_; (try clear hb); (try clear hb2); (try clear hk); (try clear hi)) | (go_at_call 18; (with_reducible refine (role_May.calls a0 6 t222 _ A14.out).mono ?_); rintro e w24 ⟨rfl, hb⟩; have n0_ := Aside0.mk (below_step (by repeat (first | (with_reducible first | exact HB.out | apply below_alloc | apply pw_below_drewN | apply below_drew1) | exact HB.out)) hb); clear HB; have HB := n0_; clear n0_; (try clear hb); (try clear hb2); (try clear hk); (try clear hi)) | (go_at_call 18; (with_reducible refine (role_May.calls 3 5 false _ A16.out).mono ?_); rintro e w25 ⟨rfl, hb⟩; have n0_ := Aside0.mk (below_step (by repeat (first | (with_reducible first | exact HB.out | apply below_alloc | apply pw_below_drewN | apply below_drew1) | exact HB.out)) hb); clear HB; have HB := n0_; clear n0_; (try clear hb); (try clear hb2); (try clear hk); (try clear hi)))
              go_ret
              (try (have e_ := eA20.out; subst e_))
              (try (have e_ := eA130.out; subst e_))
              (try (have e_ := eA140.out; subst e_))
              (try (have e_ := eA160.out; subst e_))
              exact ⟨by first | rfl | (simp [errW_none, errW_some] <;> rfl) | (simp [*, errW_none, errW_some] <;> rfl), by repeat (first | (with_reducible first | exact HB.out | apply below_alloc | apply pw_below_drewN | apply below_drew1) | exact HB.out)⟩
          · rw [if_neg c15] at H
            have c15b0 : (t221 == t222) = false := by simpa using c15
            (try (have c15b1 : decide (t221 = t222) = false := by simpa using c15))
            (try (have c15b2 : (t221 == t222) = false := by simpa using c15))
            (try (have c15b3 : ¬ (t221 = t222) := by simpa using c15))
            clear c15
            obtain rfl := Option.some.inj H
            go_wp2_with (first | (go_at_call 18; (with_reducible refine (role_May.calls a0 5 t221 _ A13.out).mono ?_); rintro e w26 ⟨rfl, hb⟩; have n0_ := Aside0.mk (below_step (by repeat (first | (with_reducible first | exact HB.out | apply below_alloc | apply pw_below_drewN | apply below_drew1) | exact HB.out)) hb); clear HB; have HB := n0_; clear n0_; (try clear hb); (try clear hb2); (try clear hk); (try clear hi)) | (go_at_call 18; (with_reducible refine (role_May.calls a0 6 t222 _ A14.out).mono ?_); rintro e w27 ⟨rfl, hb⟩; have n0_ := Aside0.mk (below_step (by repeat (first | (with_reducible first | exact HB.out | apply below_alloc | apply pw_below_drewN | apply below_drew1) | exact HB.out)) hb); clear HB; have HB := n0_; clear n0_; (try clear hb); (try clear hb2); (try clear hk); (try clear hi)))
            go_ret
            (try (have e_ := eA20.out; subst e_))
            (try (have e_ := eA130.out; subst e_))
            (try (have e_ := eA140.out; subst e_))
            exact ⟨by first | rfl | (simp [errW_none, errW_some] <;> rfl) | (simp [*, errW_none, errW_some] <;> rfl), by repeat (first | (with_reducible first | exact HB.out | apply below_alloc | apply pw_below_drewN | apply below_drew1) | exact HB.out)⟩
        · rw [if_neg c12] at H
          have c12b0 : (x4_2 == (a0 == 2)) = false := by simpa using c12
          (try (have c12b1 : decide (x4_2 = (a0 == 2)) = false := by simpa using c12))
          (try (have c12b2 : (x4_2 == (a0 == 2)) = false := by simpa using c12))
          (try (have c12b3 : ¬ (x4_2 = (a0 == 2)) := by simpa using c12))
          clear c12
          obtain rfl := Option.some.inj H
          go_wp2
          go_ret
          (try (have e_ := eA20.out; subst e_))
          exact ⟨by first | rfl | (simp [errW_none, errW_some] <;> rfl) | (simp [*, errW_none, errW_some] <;> rfl), by repeat (first | (with_reducible first | exact HB.out | apply below_alloc | apply pw_below_drewN | apply below_drew1) | exact HB.out)⟩
      · replace c11 := Bool.eq_false_iff.mpr c11
        subst c11
        have H1 : (some false) = some r := by rw [if_neg (show ¬ (false = true) by decide)] at H; exact H
        clear H
        have H := H1
        clear H1
        obtain rfl := Option.some.inj H
        go_wp2
        go_ret
        (try (have e_ := eA20.out; subst e_))
        exact ⟨by first | rfl | (simp [errW_none, errW_some] <;> rfl) | (simp [*, errW_none, errW_some] <;> rfl), by repeat (first | (with_reducible first | exact HB.out | apply below_alloc | apply pw_below_drewN | apply below_drew1) | exact HB.out)⟩

/-- THE ONE PURE STATEMENT of pelicanlaw07_RoleRed: yours. -/
def pelicanlaw07_RoleRed.Pure : Prop := ∀ (a0 : Int), (Lit.int .i64 a0).wf = true → ∃ k, pelicanlaw07_RoleRed.f k a0 = some true
theorem pelicanlaw07_RoleRed.walk (P : pelicanlaw07_RoleRed.Pure) (a0 : Int) (w : World) (w0 : (Lit.int .i64 a0).wf = true) :
    Calls Try.prog 7 #[.int .i64 a0] w fun e w' => e = .returned (.bool true) ∧ Below w.heap.size w w' := by
  obtain ⟨k, h⟩ := P a0 w0
  refine (pelicanlaw07_RoleRed.calls k a0 true w h).mono ?_
  rintro e w' ⟨rfl, hd⟩
  exact ⟨rfl, hd⟩

end Go.Proofs.Ythkkeeekfjfffaa.P
