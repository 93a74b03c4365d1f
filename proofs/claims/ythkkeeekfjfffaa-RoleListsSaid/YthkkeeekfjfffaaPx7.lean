-- Laid by a program of this session (wip/pp.py), which calls the kit's print.
import Derived.Test.YthkkeeekfjfffaaPx0
import Derived.Test.YthkkeeekfjfffaaPx5
import Derived.Test.YthkkeeekfjfffaaHRole
import Derived.Test.YthkkeeekfjfffaaHRole2
namespace Go.Proofs.Ythkkeeekfjfffaa.P
open Go.RowKit Go.Proofs.YthkkeeekfjfffaaW.PrintWords Go.Proofs.YthkkeeekfjfffaaW.PrintLast Go.Proofs.YthkkeeekfjfffaaW.PrintMore
attribute [local go_sem] max2_int min2_int max_two min_two max_three min_three max_four min_four   -- for this text's walks alone
set_option linter.unusedVariables false
set_option linter.unusedSimpArgs false

/-! ### pelicanlaw07_RoleNames: function 4 -/
mutual
def pelicanlaw07_RoleNames.j0 : Nat → Int → Int → ByteArray → Bool → Bool → Option (Bool)
  | 0, _, _, _, _, _ => none
  | k + 1, x0, x1, x2, x7, x18 => if x18 = true then (some x7) else (if x0 ≥ 0 then (pelicanlaw07_RoleNames.j1 k x0 x1 x2 (decide (x0 < 8))) else (pelicanlaw07_RoleNames.j1 k x0 x1 x2 false))
def pelicanlaw07_RoleNames.j1 : Nat → Int → Int → ByteArray → Bool → Option (Bool)
  | 0, _, _, _, _ => none
  | k + 1, x0, x1, x2, x8 => (role_Name.f x0).bind fun t161 => (if (x8 != (t161.toList != ([] : List UInt8))) = true then (pelicanlaw07_RoleNames.j2 k x2 true) else (if x8 = true then ((role_Read.f t161).bind fun t162 => (if t162 = x0 then (if x0 = x1 then (pelicanlaw07_RoleNames.j2 k x2 false) else ((role_Name.f x1).bind fun t163 => (pelicanlaw07_RoleNames.j2 k x2 (t163.toList == t161.toList)))) else (pelicanlaw07_RoleNames.j2 k x2 true))) else (pelicanlaw07_RoleNames.j2 k x2 false)))
def pelicanlaw07_RoleNames.j2 : Nat → ByteArray → Bool → Option (Bool)
  | 0, _, _ => none
  | k + 1, x2, x54 => if x54 = true then (some false) else ((role_Read.f x2).bind fun t164 => (if t164 = (-1) then (some true) else (if t164 ≥ 0 then (if t164 < 8 then ((role_Name.f t164).bind fun t165 => (some (t165.toList == x2.toList))) else (some false)) else (some false))))
end
def pelicanlaw07_RoleNames.f (k : Nat) (a0 : Int) (a1 : Int) (a2 : ByteArray) : Option (Bool) := (pelicanlaw07_awake.f k).bind fun t160 => (if t160 = true then (pelicanlaw07_RoleNames.j0 k a0 a1 a2 t160 (decide ((a2.size : Int) > 40))) else (pelicanlaw07_RoleNames.j0 k a0 a1 a2 t160 true))
theorem pelicanlaw07_RoleNames.mono_l : ∀ k, (∀ y0 y1 y2 y3 y4, LeO (pelicanlaw07_RoleNames.j0 k y0 y1 y2 y3 y4) (pelicanlaw07_RoleNames.j0 (k + 1) y0 y1 y2 y3 y4)) ∧ (∀ y0 y1 y2 y3, LeO (pelicanlaw07_RoleNames.j1 k y0 y1 y2 y3) (pelicanlaw07_RoleNames.j1 (k + 1) y0 y1 y2 y3)) ∧ (∀ y0 y1, LeO (pelicanlaw07_RoleNames.j2 k y0 y1) (pelicanlaw07_RoleNames.j2 (k + 1) y0 y1))
  | 0 => ⟨fun _ _ _ _ _ r h => by simp [pelicanlaw07_RoleNames.j0] at h, fun _ _ _ _ r h => by simp [pelicanlaw07_RoleNames.j1] at h, fun _ _ r h => by simp [pelicanlaw07_RoleNames.j2] at h⟩
  | k + 1 => by
    obtain ⟨ih0, ih1, ih2⟩ := pelicanlaw07_RoleNames.mono_l k
    refine ⟨?_, ?_, ?_⟩
    · intro y0 y1 y2 y3 y4
      unfold pelicanlaw07_RoleNames.j0
      repeat' first
      | (with_reducible exact ih0 _ _ _ _ _)
      | (with_reducible exact ih1 _ _ _ _)
      | (with_reducible exact ih2 _ _)
      | (with_reducible exact pelicanlaw07_awake.mono _)
      | (with_reducible exact LeO.refl _)
      | (with_reducible exact LeO.none _)
      | (with_reducible refine LeO.ite ?_ ?_)
      | (with_reducible refine LeO.bind ?_ (fun _ => ?_))
      | exact ih0 _ _ _ _ _
      | exact ih1 _ _ _ _
      | exact ih2 _ _
      | exact pelicanlaw07_awake.mono _
      | exact LeO.none _
      | refine LeO.ite ?_ ?_
      | refine LeO.bind ?_ (fun _ => ?_)
    · intro y0 y1 y2 y3
      unfold pelicanlaw07_RoleNames.j1
      repeat' first
      | (with_reducible exact ih0 _ _ _ _ _)
      | (with_reducible exact ih1 _ _ _ _)
      | (with_reducible exact ih2 _ _)
      | (with_reducible exact pelicanlaw07_awake.mono _)
      | (with_reducible exact LeO.refl _)
      | (with_reducible exact LeO.none _)
      | (with_reducible refine LeO.ite ?_ ?_)
      | (with_reducible refine LeO.bind ?_ (fun _ => ?_))
      | exact ih0 _ _ _ _ _
      | exact ih1 _ _ _ _
      | exact ih2 _ _
      | exact pelicanlaw07_awake.mono _
      | exact LeO.none _
      | refine LeO.ite ?_ ?_
      | refine LeO.bind ?_ (fun _ => ?_)
    · intro y0 y1
      unfold pelicanlaw07_RoleNames.j2
      repeat' first
      | (with_reducible exact ih0 _ _ _ _ _)
      | (with_reducible exact ih1 _ _ _ _)
      | (with_reducible exact ih2 _ _)
      | (with_reducible exact pelicanlaw07_awake.mono _)
      | (with_reducible exact LeO.refl _)
      | (with_reducible exact LeO.none _)
      | (with_reducible refine LeO.ite ?_ ?_)
      | (with_reducible refine LeO.bind ?_ (fun _ => ?_))
      | exact ih0 _ _ _ _ _
      | exact ih1 _ _ _ _
      | exact ih2 _ _
      | exact pelicanlaw07_awake.mono _
      | exact LeO.none _
      | refine LeO.ite ?_ ?_
      | refine LeO.bind ?_ (fun _ => ?_)
theorem pelicanlaw07_RoleNames.mono : ∀ a0 a1 a2 k, LeO (pelicanlaw07_RoleNames.f k a0 a1 a2) (pelicanlaw07_RoleNames.f (k + 1) a0 a1 a2) := by
  intro a0 a1 a2 k
  obtain ⟨ih0, ih1, ih2⟩ := pelicanlaw07_RoleNames.mono_l k
  unfold pelicanlaw07_RoleNames.f
  repeat' first
      | (with_reducible exact ih0 _ _ _ _ _)
      | (with_reducible exact ih1 _ _ _ _)
      | (with_reducible exact ih2 _ _)
      | (with_reducible exact pelicanlaw07_awake.mono _)
      | (with_reducible exact LeO.refl _)
      | (with_reducible exact LeO.none _)
      | (with_reducible refine LeO.ite ?_ ?_)
      | (with_reducible refine LeO.bind ?_ (fun _ => ?_))
      | exact ih0 _ _ _ _ _
      | exact ih1 _ _ _ _
      | exact ih2 _ _
      | exact pelicanlaw07_awake.mono _
      | exact LeO.none _
      | refine LeO.ite ?_ ?_
      | refine LeO.bind ?_ (fun _ => ?_)
set_option maxHeartbeats 8000000 in
set_option maxRecDepth 100000 in
theorem pelicanlaw07_RoleNames.calls (k : Nat) (a0 : Int) (a1 : Int) (a2 : ByteArray) (r : Bool) (w : World) (h : pelicanlaw07_RoleNames.f k a0 a1 a2 = some r) :
    Calls Try.prog 4 #[.int .i64 a0, .int .i64 a1, .string a2] w fun e w' => e = .returned (.bool r) ∧ Below w.heap.size w w' := by
  have HB := Aside0.mk (Below.refl w.heap.size w)
  have H : ((pelicanlaw07_awake.f k).bind fun t160 => (if t160 = true then (pelicanlaw07_RoleNames.j0 k a0 a1 a2 t160 (decide ((a2.size : Int) > 40))) else (pelicanlaw07_RoleNames.j0 k a0 a1 a2 t160 true))) = some r := h
  clear h
  replace H := Option.bind_eq_some_iff.mp H
  obtain ⟨t160, A40, H⟩ := H
  replace H : (if t160 = true then (pelicanlaw07_RoleNames.j0 k a0 a1 a2 t160 (decide ((a2.size : Int) > 40))) else (pelicanlaw07_RoleNames.j0 k a0 a1 a2 t160 true)) = some r := H
  have A4 := Aside0.mk A40
  clear A40
  have HC5 := Aside0.mk H
  clear H
  go_enter Try.func4, Try.ntmps4
  go_upto_region 2 with (first | ((with_reducible refine gate_callee (f := 8) rfl ?_); refine goesL_ (some 11) rfl rfl Try.func8 (by kernel_rfl) rfl #[] rfl (by (try simp only [List.map_toArray, List.map_cons, List.map_nil]); first | done | rfl | (simp only [List.length_drop, List.length_take]; rfl)) ?_; (with_reducible refine (pelicanlaw07_awake.calls k  t160 _ A4.out).mono ?_); rintro e w6 ⟨rfl, hb⟩; refine ⟨_, rfl, ?_⟩; have n0_ := Aside0.mk (below_step (by repeat (first | (with_reducible first | exact HB.out | apply below_alloc | apply pw_below_drewN | apply below_drew1) | exact HB.out)) hb); clear HB; have HB := n0_; clear n0_; (try clear hb); (try clear hb2); (try clear hk); (try clear hi)))
  (try simp only [Act.put, List.setIfInBounds_toArray, List.set_cons_zero, List.set_cons_succ])
  go_cut [18] (fun v18 wc => ∃ (kq : Nat) (x18_4 : Bool), v18 = .bool x18_4 ∧ Aside0 (pelicanlaw07_RoleNames.j0 kq a0 a1 a2 t160 x18_4 = some r) ∧ Aside0 (kq ≤ k) ∧ Aside0 (Below w.heap.size w wc))
  case first =>
    have H := HC5.out
    clear HC5
    by_cases c7 : t160 = true
    · subst c7
      have H1 : (pelicanlaw07_RoleNames.j0 k a0 a1 a2 true (decide ((a2.size : Int) > 40))) = some r := by rw [if_pos rfl] at H; exact H
      clear H
      have H := H1
      clear H1
      have H' := Aside0.mk H
      clear H
      go_wp2
      go_meet
      case rel => exact ⟨_, (decide ((a2.size : Int) > 40)), (by first | rfl | (simp; done) | (simp [*]; done)), H', ⟨by first | omega | exact Nat.le_refl _⟩, ⟨by repeat (first | (with_reducible first | exact HB.out | apply below_alloc | apply pw_below_drewN | apply below_drew1) | exact HB.out)⟩⟩
    · replace c7 := Bool.eq_false_iff.mpr c7
      subst c7
      have H1 : (pelicanlaw07_RoleNames.j0 k a0 a1 a2 false true) = some r := by rw [if_neg (show ¬ (false = true) by decide)] at H; exact H
      clear H
      have H := H1
      clear H1
      have H' := Aside0.mk H
      clear H
      go_wp2
      go_meet
      case rel => exact ⟨_, (true), (by first | rfl | (simp; done) | (simp [*]; done)), H', ⟨by first | omega | exact Nat.le_refl _⟩, ⟨by repeat (first | (with_reducible first | exact HB.out | apply below_alloc | apply pw_below_drewN | apply below_drew1) | exact HB.out)⟩⟩
  case rest =>
    clear HC5
    try clear p2
    try clear c4
    try clear c7
    obtain ⟨kq, x18_4, rfl, HA, HJ4, HB⟩ := hcut
    cases kq with
    | zero => exact absurd HA.out (by simp [pelicanlaw07_RoleNames.j0])
    | succ kj4 =>
      have H := HA.out
      clear HA
      simp only [pelicanlaw07_RoleNames.j0] at H
      by_cases c8 : x18_4 = true
      · subst c8
        have H1 : (some t160) = some r := by rw [if_pos rfl] at H; exact H
        clear H
        have H := H1
        clear H1
        obtain rfl := Option.some.inj H
        go_wp2
        go_ret
        exact ⟨by first | rfl | (simp [errW_none, errW_some] <;> rfl) | (simp [*, errW_none, errW_some] <;> rfl), by repeat (first | (with_reducible first | exact HB.out | apply below_alloc | apply pw_below_drewN | apply below_drew1) | exact HB.out)⟩
      · replace c8 := Bool.eq_false_iff.mpr c8
        subst c8
        have H1 : (if a0 ≥ 0 then (pelicanlaw07_RoleNames.j1 kj4 a0 a1 a2 (decide (a0 < 8))) else (pelicanlaw07_RoleNames.j1 kj4 a0 a1 a2 false)) = some r := by rw [if_neg (show ¬ (false = true) by decide)] at H; exact H
        clear H
        have H := H1
        clear H1
        have HC9 := Aside0.mk H
        clear H
        go_upto_region 4 with (fail)
        go_cut [8] (fun v8 wc => ∃ (kq : Nat) (x8_8 : Bool), v8 = .bool x8_8 ∧ Aside0 (pelicanlaw07_RoleNames.j1 kq a0 a1 a2 x8_8 = some r) ∧ Aside0 (kq ≤ kj4) ∧ Aside0 (Below w.heap.size w wc))
        case first =>
          have H := HC9.out
          clear HC9
          by_cases c10 : a0 ≥ 0
          · rw [if_pos c10] at H
            have c10b0 : decide (0 ≤ a0) = true := decide_eq_true c10
            clear c10
            (first | rw [c10b0] | (simp only [i64_w, i32_w]; rw [c10b0]) | skip)
            have H' := Aside0.mk H
            clear H
            go_wp2
            go_meet
            case rel => exact ⟨_, (decide (a0 < 8)), (by first | rfl | (simp; done) | (simp [*]; done)), H', ⟨by have := HJ4.out; first | omega | exact Nat.le_refl _⟩, ⟨by repeat (first | (with_reducible first | exact HB.out | apply below_alloc | apply pw_below_drewN | apply below_drew1) | exact HB.out)⟩⟩
          · rw [if_neg c10] at H
            have c10b0 : decide (0 ≤ a0) = false := decide_eq_false c10
            clear c10
            (first | rw [c10b0] | (simp only [i64_w, i32_w]; rw [c10b0]) | skip)
            have H' := Aside0.mk H
            clear H
            go_wp2
            go_meet
            case rel => exact ⟨_, (false), (by first | rfl | (simp; done) | (simp [*]; done)), H', ⟨by have := HJ4.out; first | omega | exact Nat.le_refl _⟩, ⟨by repeat (first | (with_reducible first | exact HB.out | apply below_alloc | apply pw_below_drewN | apply below_drew1) | exact HB.out)⟩⟩
        case rest =>
          clear HC9
          try clear c1
          try clear p2
          try clear c4
          try clear c7
          try clear c8
          try clear c10
          try clear c10b0
          try clear p2
          obtain ⟨kq, x8_8, rfl, HA, HJ8, HB⟩ := hcut
          cases kq with
          | zero => exact absurd HA.out (by simp [pelicanlaw07_RoleNames.j1])
          | succ kj8 =>
            have H := HA.out
            clear HA
            simp only [pelicanlaw07_RoleNames.j1] at H
            replace H := Option.bind_eq_some_iff.mp H
            obtain ⟨t161, A110, H⟩ := H
            replace H : (if (x8_8 != (t161.toList != ([] : List UInt8))) = true then (pelicanlaw07_RoleNames.j2 kj8 a2 true) else (if x8_8 = true then ((role_Read.f t161).bind fun t162 => (if t162 = a0 then (if a0 = a1 then (pelicanlaw07_RoleNames.j2 kj8 a2 false) else ((role_Name.f a1).bind fun t163 => (pelicanlaw07_RoleNames.j2 kj8 a2 (t163.toList == t161.toList)))) else (pelicanlaw07_RoleNames.j2 kj8 a2 true))) else (pelicanlaw07_RoleNames.j2 kj8 a2 false))) = some r := H
            have A11 := Aside0.mk A110
            clear A110
            have HC12 := Aside0.mk H
            clear H
            go_upto_region 6 with (first | ((with_reducible refine gate_callee (f := 20) rfl ?_); refine goesL_ (some 27) rfl rfl Try.func20 (by kernel_rfl) rfl #[.int .i64 a0] rfl (by (try simp only [List.map_toArray, List.map_cons, List.map_nil]); first | done | rfl | (simp only [List.length_drop, List.length_take]; rfl)) ?_; (with_reducible refine (role_Name.calls a0 t161 _ A11.out).mono ?_); rintro e w13 ⟨rfl, hb⟩; refine ⟨_, rfl, ?_⟩; have n0_ := Aside0.mk (below_step (by repeat (first | (with_reducible first | exact HB.out | apply below_alloc | apply pw_below_drewN | apply below_drew1) | exact HB.out)) hb); clear HB; have HB := n0_; clear n0_; (try clear hb); (try clear hb2); (try clear hk); (try clear hi)))
            (try simp only [Act.put, List.setIfInBounds_toArray, List.set_cons_zero, List.set_cons_succ])
            go_cut [54] (fun v54 wc => ∃ (kq : Nat) (x54_11 : Bool), v54 = .bool x54_11 ∧ Aside0 (pelicanlaw07_RoleNames.j2 kq a2 x54_11 = some r) ∧ Aside0 (kq ≤ kj8) ∧ Aside0 (Below w.heap.size w wc))
            case first =>
              have H := HC12.out
              clear HC12
              rcases Classical.em (t161.toList = []) with hn | hn
              all_goals have he14 : t161.toList.isEmpty = decide (t161.toList = []) := by cases t161.toList <;> rfl
              all_goals simp only [hn, decide_true, decide_false] at he14
              all_goals
              by_cases c14 : (x8_8 != (t161.toList != ([] : List UInt8))) = true
              · rw [if_pos c14] at H
                have c14b0 : (x8_8 != (t161.toList != ([] : List UInt8))) = true := c14
                (try (have c14b1 : decide (x8_8 = (t161.toList != ([] : List UInt8))) = false := by simpa using c14))
                (try (have c14b2 : (x8_8 == (t161.toList != ([] : List UInt8))) = false := by simpa using c14))
                (try (have c14b3 : ¬ (x8_8 = (t161.toList != ([] : List UInt8))) := by simpa using c14))
                clear c14
                cases x8_8
                all_goals try (exfalso; first | (rw [hn] at c14b0; exact absurd c14b0 (by decide)) | (simp [hn] at c14b0; done))
                all_goals
                (first | rw [c14b0] | (simp only [i64_w, i32_w]; rw [c14b0]) | skip)
                have H' := Aside0.mk H
                clear H
                go_wp2
                go_meet
                case rel => exact ⟨_, (true), (by first | rfl | (simp; done) | (simp [*]; done)), H', ⟨by have := HJ4.out; have := HJ8.out; first | omega | exact Nat.le_refl _⟩, ⟨by repeat (first | (with_reducible first | exact HB.out | apply below_alloc | apply pw_below_drewN | apply below_drew1) | exact HB.out)⟩⟩
              · rw [if_neg c14] at H
                have c14b0 : (x8_8 != (t161.toList != ([] : List UInt8))) = false := by simpa using c14
                (try (have c14b1 : decide (x8_8 = (t161.toList != ([] : List UInt8))) = true := by simpa using c14))
                (try (have c14b2 : (x8_8 == (t161.toList != ([] : List UInt8))) = true := by simpa using c14))
                clear c14
                (first | rw [c14b0] | (simp only [i64_w, i32_w]; rw [c14b0]) | skip)
                by_cases c15 : x8_8 = true
                · subst c15
                  all_goals try (exfalso; first | (rw [hn] at c14b0; exact absurd c14b0 (by decide)) | (simp [hn] at c14b0; done))
                  all_goals
                  have H1 : ((role_Read.f t161).bind fun t162 => (if t162 = a0 then (if a0 = a1 then (pelicanlaw07_RoleNames.j2 kj8 a2 false) else ((role_Name.f a1).bind fun t163 => (pelicanlaw07_RoleNames.j2 kj8 a2 (t163.toList == t161.toList)))) else (pelicanlaw07_RoleNames.j2 kj8 a2 true))) = some r := by rw [if_pos rfl] at H; exact H
                  clear H
                  have H := H1
                  clear H1
                  replace H := Option.bind_eq_some_iff.mp H
                  obtain ⟨t162, A160, H⟩ := H
                  replace H : (if t162 = a0 then (if a0 = a1 then (pelicanlaw07_RoleNames.j2 kj8 a2 false) else ((role_Name.f a1).bind fun t163 => (pelicanlaw07_RoleNames.j2 kj8 a2 (t163.toList == t161.toList)))) else (pelicanlaw07_RoleNames.j2 kj8 a2 true)) = some r := H
                  have A16 := Aside0.mk A160
                  clear A160
                  by_cases c17 : t162 = a0
                  · rw [if_pos c17] at H
                    have c17b0 : (t162 == a0) = true := beq_iff_eq.mpr c17
                    have c17b1 : (t162 != a0) = false := bne_eq_false_iff_eq.mpr c17
                    clear c17
                    by_cases c18 : a0 = a1
                    · rw [if_pos c18] at H
                      have c18b0 : (a0 == a1) = true := beq_iff_eq.mpr c18
                      have c18b1 : (a0 != a1) = false := bne_eq_false_iff_eq.mpr c18
                      clear c18
                      have H' := Aside0.mk H
                      clear H
                      go_wp2_with (first | (go_at_call 22; (with_reducible refine (role_Read.calls t161 t162 _ A16.out).mono ?_); rintro e w19 ⟨rfl, hb⟩; have n0_ := Aside0.mk (below_step (by repeat (first | (with_reducible first | exact HB.out | apply below_alloc | apply pw_below_drewN | apply below_drew1) | exact HB.out)) hb); clear HB; have HB := n0_; clear n0_; (try clear hb); (try clear hb2); (try clear hk); (try clear hi)))
                      go_meet
                      case rel => exact ⟨_, (false), (by first | rfl | (simp; done) | (simp [*]; done)), H', ⟨by have := HJ4.out; have := HJ8.out; first | omega | exact Nat.le_refl _⟩, ⟨by repeat (first | (with_reducible first | exact HB.out | apply below_alloc | apply pw_below_drewN | apply below_drew1) | exact HB.out)⟩⟩
                    · rw [if_neg c18] at H
                      have c18b0 : (a0 == a1) = false := beq_eq_false_iff_ne.mpr c18
                      have c18b1 : (a0 != a1) = true := bne_iff_ne.mpr c18
                      replace H := Option.bind_eq_some_iff.mp H
                      obtain ⟨t163, A200, H⟩ := H
                      replace H : (pelicanlaw07_RoleNames.j2 kj8 a2 (t163.toList == t161.toList)) = some r := H
                      have A20 := Aside0.mk A200
                      clear A200
                      have H' := Aside0.mk H
                      clear H
                      go_wp2_with (first | (go_at_call 22; (with_reducible refine (role_Read.calls t161 t162 _ A16.out).mono ?_); rintro e w21 ⟨rfl, hb⟩; have n0_ := Aside0.mk (below_step (by repeat (first | (with_reducible first | exact HB.out | apply below_alloc | apply pw_below_drewN | apply below_drew1) | exact HB.out)) hb); clear HB; have HB := n0_; clear n0_; (try clear hb); (try clear hb2); (try clear hk); (try clear hi)) | (go_at_call 20; (with_reducible refine (role_Name.calls a1 t163 _ A20.out).mono ?_); rintro e w22 ⟨rfl, hb⟩; have n0_ := Aside0.mk (below_step (by repeat (first | (with_reducible first | exact HB.out | apply below_alloc | apply pw_below_drewN | apply below_drew1) | exact HB.out)) hb); clear HB; have HB := n0_; clear n0_; (try clear hb); (try clear hb2); (try clear hk); (try clear hi)))
                      go_meet
                      case rel => exact ⟨_, ((t163.toList == t161.toList)), (by first | rfl | (simp; done) | (simp [*]; done)), H', ⟨by have := HJ4.out; have := HJ8.out; first | omega | exact Nat.le_refl _⟩, ⟨by repeat (first | (with_reducible first | exact HB.out | apply below_alloc | apply pw_below_drewN | apply below_drew1) | exact HB.out)⟩⟩
                  · rw [if_neg c17] at H
                    have c17b0 : (t162 == a0) = false := beq_eq_false_iff_ne.mpr c17
                    have c17b1 : (t162 != a0) = true := bne_iff_ne.mpr c17
                    have H' := Aside0.mk H
                    clear H
                    go_wp2_with (first | (go_at_call 22; (with_reducible refine (role_Read.calls t161 t162 _ A16.out).mono ?_); rintro e w23 ⟨rfl, hb⟩; have n0_ := Aside0.mk (below_step (by repeat (first | (with_reducible first | exact HB.out | apply below_alloc | apply pw_below_drewN | apply below_drew1) | exact HB.out)) hb); clear HB; have HB := n0_; clear n0_; (try clear hb); (try clear hb2); (try clear hk); (try clear hi)))
                    go_meet
                    case rel => exact ⟨_, (true), (by first | rfl | (simp; done) | (simp [*]; done)), H', ⟨by have := HJ4.out; have := HJ8.out; first | omega | exact Nat.le_refl _⟩, ⟨by repeat (first | (with_reducible first | exact HB.out | apply below_alloc | apply pw_below_drewN | apply below_drew1) | exact HB.out)⟩⟩
                · replace c15 := Bool.eq_false_iff.mpr c15
                  subst c15
                  all_goals try (exfalso; first | (rw [hn] at c14b0; exact absurd c14b0 (by decide)) | (simp [hn] at c14b0; done))
                  all_goals
                  have H1 : (pelicanlaw07_RoleNames.j2 kj8 a2 false) = some r := by rw [if_neg (show ¬ (false = true) by decide)] at H; exact H
                  clear H
                  have H := H1
                  clear H1
                  have H' := Aside0.mk H
                  clear H
                  go_wp2
                  go_meet
                  case rel => exact ⟨_, (false), (by first | rfl | (simp; done) | (simp [*]; done)), H', ⟨by have := HJ4.out; have := HJ8.out; first | omega | exact Nat.le_refl _⟩, ⟨by repeat (first | (with_reducible first | exact HB.out | apply below_alloc | apply pw_below_drewN | apply below_drew1) | exact HB.out)⟩⟩
            case rest =>
              clear HC12
              try clear c1
              try clear c2
              try clear p2
              try clear c4
              try clear c7
              try clear c8
              try clear c10
              try clear c10b0
              try clear c14
              try clear c14b0
              try clear c14b1
              try clear c14b2
              try clear c15
              try clear c17
              try clear c17b0
              try clear c17b1
              try clear c18
              try clear c18b0
              try clear c18b1
              try clear c20
              try clear p2
              obtain ⟨kq, x54_11, rfl, HA, HJ11, HB⟩ := hcut
              cases kq with
              | zero => exact absurd HA.out (by simp [pelicanlaw07_RoleNames.j2])
              | succ kj11 =>
                have H := HA.out
                clear HA
                simp only [pelicanlaw07_RoleNames.j2] at H
                by_cases c24 : x54_11 = true
                · subst c24
                  have H1 : (some false) = some r := by rw [if_pos rfl] at H; exact H
                  clear H
                  have H := H1
                  clear H1
                  obtain rfl := Option.some.inj H
                  go_wp2
                  go_ret
                  exact ⟨by first | rfl | (simp [errW_none, errW_some] <;> rfl) | (simp [*, errW_none, errW_some] <;> rfl), by repeat (first | (with_reducible first | exact HB.out | apply below_alloc | apply pw_below_drewN | apply below_drew1) | exact HB.out)⟩
                · replace c24 := Bool.eq_false_iff.mpr c24
                  subst c24
                  have H1 : ((role_Read.f a2).bind fun t164 => (if t164 = (-1) then (some true) else (if t164 ≥ 0 then (if t164 < 8 then ((role_Name.f t164).bind fun t165 => (some (t165.toList == a2.toList))) else (some false)) else (some false)))) = some r := by rw [if_neg (show ¬ (false = true) by decide)] at H; exact H
                  clear H
                  have H := H1
                  clear H1
                  replace H := Option.bind_eq_some_iff.mp H
                  obtain ⟨t164, A250, H⟩ := H
                  replace H : (if t164 = (-1) then (some true) else (if t164 ≥ 0 then (if t164 < 8 then ((role_Name.f t164).bind fun t165 => (some (t165.toList == a2.toList))) else (some false)) else (some false))) = some r := H
                  have A25 := Aside0.mk A250
                  clear A250
                  by_cases c26 : t164 = (-1)
                  · rw [if_pos c26] at H
                    have c26b0 : (t164 == (-1)) = true := beq_iff_eq.mpr c26
                    have c26b1 : (t164 != (-1)) = false := bne_eq_false_iff_eq.mpr c26
                    clear c26
                    obtain rfl := Option.some.inj H
                    go_wp2_with (first | ((with_reducible refine gate_callee (f := 22) rfl ?_); refine goesL_ (some 56) rfl rfl Try.func22 (by kernel_rfl) rfl #[.string a2] rfl (by (try simp only [List.map_toArray, List.map_cons, List.map_nil]); first | done | rfl | (simp only [List.length_drop, List.length_take]; rfl)) ?_; (with_reducible refine (role_Read.calls a2 t164 _ A25.out).mono ?_); rintro e w27 ⟨rfl, hb⟩; refine ⟨_, rfl, ?_⟩; have n0_ := Aside0.mk (below_step (by repeat (first | (with_reducible first | exact HB.out | apply below_alloc | apply pw_below_drewN | apply below_drew1) | exact HB.out)) hb); clear HB; have HB := n0_; clear n0_; (try clear hb); (try clear hb2); (try clear hk); (try clear hi)))
                    go_ret
                    exact ⟨by first | rfl | (simp [errW_none, errW_some] <;> rfl) | (simp [*, errW_none, errW_some] <;> rfl), by repeat (first | (with_reducible first | exact HB.out | apply below_alloc | apply pw_below_drewN | apply below_drew1) | exact HB.out)⟩
                  · rw [if_neg c26] at H
                    have c26b0 : (t164 == (-1)) = false := beq_eq_false_iff_ne.mpr c26
                    have c26b1 : (t164 != (-1)) = true := bne_iff_ne.mpr c26
                    by_cases c28 : t164 ≥ 0
                    · rw [if_pos c28] at H
                      have c28b0 : decide (0 ≤ t164) = true := decide_eq_true c28
                      clear c28
                      by_cases c29 : t164 < 8
                      · rw [if_pos c29] at H
                        have c29b0 : decide (t164 < 8) = true := decide_eq_true c29
                        clear c29
                        replace H := Option.bind_eq_some_iff.mp H
                        obtain ⟨t165, A300, H⟩ := H
                        replace H : (some (t165.toList == a2.toList)) = some r := H
                        have A30 := Aside0.mk A300
                        clear A300
                        obtain rfl := Option.some.inj H
                        go_wp2_with (first | ((with_reducible refine gate_callee (f := 22) rfl ?_); refine goesL_ (some 56) rfl rfl Try.func22 (by kernel_rfl) rfl #[.string a2] rfl (by (try simp only [List.map_toArray, List.map_cons, List.map_nil]); first | done | rfl | (simp only [List.length_drop, List.length_take]; rfl)) ?_; (with_reducible refine (role_Read.calls a2 t164 _ A25.out).mono ?_); rintro e w31 ⟨rfl, hb⟩; refine ⟨_, rfl, ?_⟩; have n0_ := Aside0.mk (below_step (by repeat (first | (with_reducible first | exact HB.out | apply below_alloc | apply pw_below_drewN | apply below_drew1) | exact HB.out)) hb); clear HB; have HB := n0_; clear n0_; (try clear hb); (try clear hb2); (try clear hk); (try clear hi)) | (go_at_call 20; (with_reducible refine (role_Name.calls t164 t165 _ A30.out).mono ?_); rintro e w32 ⟨rfl, hb⟩; have n0_ := Aside0.mk (below_step (by repeat (first | (with_reducible first | exact HB.out | apply below_alloc | apply pw_below_drewN | apply below_drew1) | exact HB.out)) hb); clear HB; have HB := n0_; clear n0_; (try clear hb); (try clear hb2); (try clear hk); (try clear hi)))
                        go_ret
                        exact ⟨by first | rfl | (simp [errW_none, errW_some] <;> rfl) | (simp [*, errW_none, errW_some] <;> rfl), by repeat (first | (with_reducible first | exact HB.out | apply below_alloc | apply pw_below_drewN | apply below_drew1) | exact HB.out)⟩
                      · rw [if_neg c29] at H
                        have c29b0 : decide (t164 < 8) = false := decide_eq_false c29
                        clear c29
                        obtain rfl := Option.some.inj H
                        go_wp2_with (first | ((with_reducible refine gate_callee (f := 22) rfl ?_); refine goesL_ (some 56) rfl rfl Try.func22 (by kernel_rfl) rfl #[.string a2] rfl (by (try simp only [List.map_toArray, List.map_cons, List.map_nil]); first | done | rfl | (simp only [List.length_drop, List.length_take]; rfl)) ?_; (with_reducible refine (role_Read.calls a2 t164 _ A25.out).mono ?_); rintro e w33 ⟨rfl, hb⟩; refine ⟨_, rfl, ?_⟩; have n0_ := Aside0.mk (below_step (by repeat (first | (with_reducible first | exact HB.out | apply below_alloc | apply pw_below_drewN | apply below_drew1) | exact HB.out)) hb); clear HB; have HB := n0_; clear n0_; (try clear hb); (try clear hb2); (try clear hk); (try clear hi)))
                        go_ret
                        exact ⟨by first | rfl | (simp [errW_none, errW_some] <;> rfl) | (simp [*, errW_none, errW_some] <;> rfl), by repeat (first | (with_reducible first | exact HB.out | apply below_alloc | apply pw_below_drewN | apply below_drew1) | exact HB.out)⟩
                    · rw [if_neg c28] at H
                      have c28b0 : decide (0 ≤ t164) = false := decide_eq_false c28
                      clear c28
                      obtain rfl := Option.some.inj H
                      go_wp2_with (first | ((with_reducible refine gate_callee (f := 22) rfl ?_); refine goesL_ (some 56) rfl rfl Try.func22 (by kernel_rfl) rfl #[.string a2] rfl (by (try simp only [List.map_toArray, List.map_cons, List.map_nil]); first | done | rfl | (simp only [List.length_drop, List.length_take]; rfl)) ?_; (with_reducible refine (role_Read.calls a2 t164 _ A25.out).mono ?_); rintro e w34 ⟨rfl, hb⟩; refine ⟨_, rfl, ?_⟩; have n0_ := Aside0.mk (below_step (by repeat (first | (with_reducible first | exact HB.out | apply below_alloc | apply pw_below_drewN | apply below_drew1) | exact HB.out)) hb); clear HB; have HB := n0_; clear n0_; (try clear hb); (try clear hb2); (try clear hk); (try clear hi)))
                      go_ret
                      exact ⟨by first | rfl | (simp [errW_none, errW_some] <;> rfl) | (simp [*, errW_none, errW_some] <;> rfl), by repeat (first | (with_reducible first | exact HB.out | apply below_alloc | apply pw_below_drewN | apply below_drew1) | exact HB.out)⟩

/-- THE ONE PURE STATEMENT of pelicanlaw07_RoleNames: yours. -/
def pelicanlaw07_RoleNames.Pure : Prop := ∀ (a0 : Int) (a1 : Int) (a2 : ByteArray), (Lit.int .i64 a0).wf = true → (Lit.int .i64 a1).wf = true → a2.size ≤ 140737488351232 → ∃ k, pelicanlaw07_RoleNames.f k a0 a1 a2 = some true
theorem pelicanlaw07_RoleNames.walk (P : pelicanlaw07_RoleNames.Pure) (a0 : Int) (a1 : Int) (a2 : ByteArray) (w : World) (w0 : (Lit.int .i64 a0).wf = true) (w1 : (Lit.int .i64 a1).wf = true) (w2 : a2.size ≤ 140737488351232) :
    Calls Try.prog 4 #[.int .i64 a0, .int .i64 a1, .string a2] w fun e w' => e = .returned (.bool true) ∧ Below w.heap.size w w' := by
  obtain ⟨k, h⟩ := P a0 a1 a2 w0 w1 w2
  refine (pelicanlaw07_RoleNames.calls k a0 a1 a2 true w h).mono ?_
  rintro e w' ⟨rfl, hd⟩
  exact ⟨rfl, hd⟩

end Go.Proofs.Ythkkeeekfjfffaa.P
