-- Laid by a program of this session (wip/pp.py), which calls the kit's print.
import Derived.Test.YtfonjmggalkbjaaPx0
import Derived.Test.YtfonjmggalkbjaaPx4
import Derived.Test.YtfonjmggalkbjaaPx8
import Derived.Test.YtfonjmggalkbjaaHAwake
import Derived.Test.YtfonjmggalkbjaaHHas
import Derived.Test.YtfonjmggalkbjaaHParts
namespace Go.Proofs.Ytfonjmggalkbjaa.P
open Go.RowKit Go.Proofs.YtfonjmggalkbjaaW.PrintWords Go.Proofs.YtfonjmggalkbjaaW.PrintLast Go.Proofs.YtfonjmggalkbjaaW.PrintMore
attribute [local go_sem] max2_int min2_int max_two min_two max_three min_three max_four min_four   -- for this text's walks alone
set_option linter.unusedVariables false
set_option linter.unusedSimpArgs false

/-! ### pelicanlaw06_KnowParts: function 9 -/
mutual
def pelicanlaw06_KnowParts.j0 : Nat → List (S24) → Int → Int → Bool → Bool → Option (Bool)
  | 0, _, _, _, _, _ => none
  | k + 1, x0, x1, x2, x7, x28 => if x28 = true then (some x7) else ((know_Parts.f x0).bind fun t267 => (if x2 ≥ 0 then (pelicanlaw06_KnowParts.j1 k x0 x1 x2 t267 (decide (x2 < (x0.length : Int)))) else (pelicanlaw06_KnowParts.j1 k x0 x1 x2 t267 false)))
def pelicanlaw06_KnowParts.j1 : Nat → List (S24) → Int → Int → List (S24) → Bool → Option (Bool)
  | 0, _, _, _, _, _ => none
  | k + 1, x0, x1, x2, x9, x39 => if x39 = true then (if 0 ≤ x2 then (if x2 < (x0.length : Int) then ((pelicanref06_In.f k x9 ((rd_T24 x0 x2).f0) ((rd_T24 x0 x2).f1) ((rd_T24 x0 x2).f2)).bind fun t271 => (if t271 = true then (pelicanlaw06_KnowParts.j2 k x0 x1 x9) else (some false))) else (none)) else (none)) else (pelicanlaw06_KnowParts.j2 k x0 x1 x9)
def pelicanlaw06_KnowParts.j2 : Nat → List (S24) → Int → List (S24) → Option (Bool)
  | 0, _, _, _ => none
  | k + 1, x0, x1, x9 => if x1 < 0 then (pelicanlaw06_KnowParts.j3 k x0 x1 x9 true) else (pelicanlaw06_KnowParts.j3 k x0 x1 x9 (decide (x1 ≥ (x9.length : Int))))
def pelicanlaw06_KnowParts.j3 : Nat → List (S24) → Int → List (S24) → Bool → Option (Bool)
  | 0, _, _, _, _ => none
  | k + 1, x0, x1, x9, x55 => if x55 = true then (some true) else (if 0 ≤ x1 then (if x1 ≤ (x9.length : Int) then (if x1 < (x9.length : Int) then ((pelicanref06_In.f k (x9.take (x1 : Int).toNat) ((rd_T24 x9 x1).f0) ((rd_T24 x9 x1).f1) ((rd_T24 x9 x1).f2)).bind fun t278 => ((pelicanref06_In.f k x0 ((rd_T24 x9 x1).f0) ((rd_T24 x9 x1).f1) ((rd_T24 x9 x1).f2)).bind fun t280 => (pelicanlaw06_KnowParts.l0 k x1 x9 t278 t280 0))) else (none)) else (none)) else (none))
def pelicanlaw06_KnowParts.l0 : Nat → Int → List (S24) → Bool → Bool → Int → Option (Bool)
  | 0, _, _, _, _, _ => none
  | k + 1, x1, x9, x11, x12, x13 => if x13 < x1 then (if 0 ≤ x13 then (if x13 < (x9.length : Int) then (if 0 ≤ x1 then (if x1 < (x9.length : Int) then ((pelicanref06_In.f k ((rd_T24 x9 x13).f2) ((rd_T24 x9 x1).f0) ((rd_T24 x9 x1).f1) ((rd_T24 x9 x1).f2)).bind fun t283 => (if x12 = true then (pelicanlaw06_KnowParts.l0 k x1 x9 x11 true (wrap64 (x13 + 1))) else (if ((rd_T24 x9 x13).f0) = 2 then (pelicanlaw06_KnowParts.l0 k x1 x9 x11 t283 (wrap64 (x13 + 1))) else (pelicanlaw06_KnowParts.l0 k x1 x9 x11 false (wrap64 (x13 + 1)))))) else (none)) else (none)) else (none)) else (none)) else (if x11 = true then (some false) else (some x12))
end
def pelicanlaw06_KnowParts.f (k : Nat) (l0 : List (S24)) (a1 : Int) (a2 : Int) : Option (Bool) := (pelicanlaw06_awake.f).bind fun t264 => ((pelicanref05_LightAll.f k l0).bind fun t265 => (if t264 = true then (if t265 = true then ((know_May.f l0).bind fun t266 => (pelicanlaw06_KnowParts.j0 k l0 a1 a2 t264 (!t266))) else (pelicanlaw06_KnowParts.j0 k l0 a1 a2 t264 true)) else (pelicanlaw06_KnowParts.j0 k l0 a1 a2 t264 true)))
theorem pelicanlaw06_KnowParts.mono_l : ∀ k, (∀ y0 y1 y2 y3 y4, LeO (pelicanlaw06_KnowParts.j0 k y0 y1 y2 y3 y4) (pelicanlaw06_KnowParts.j0 (k + 1) y0 y1 y2 y3 y4)) ∧ (∀ y0 y1 y2 y3 y4, LeO (pelicanlaw06_KnowParts.j1 k y0 y1 y2 y3 y4) (pelicanlaw06_KnowParts.j1 (k + 1) y0 y1 y2 y3 y4)) ∧ (∀ y0 y1 y2, LeO (pelicanlaw06_KnowParts.j2 k y0 y1 y2) (pelicanlaw06_KnowParts.j2 (k + 1) y0 y1 y2)) ∧ (∀ y0 y1 y2 y3, LeO (pelicanlaw06_KnowParts.j3 k y0 y1 y2 y3) (pelicanlaw06_KnowParts.j3 (k + 1) y0 y1 y2 y3)) ∧ (∀ y0 y1 y2 y3 y4, LeO (pelicanlaw06_KnowParts.l0 k y0 y1 y2 y3 y4) (pelicanlaw06_KnowParts.l0 (k + 1) y0 y1 y2 y3 y4))
  | 0 => ⟨fun _ _ _ _ _ r h => by simp [pelicanlaw06_KnowParts.j0] at h, fun _ _ _ _ _ r h => by simp [pelicanlaw06_KnowParts.j1] at h, fun _ _ _ r h => by simp [pelicanlaw06_KnowParts.j2] at h, fun _ _ _ _ r h => by simp [pelicanlaw06_KnowParts.j3] at h, fun _ _ _ _ _ r h => by simp [pelicanlaw06_KnowParts.l0] at h⟩
  | k + 1 => by
    obtain ⟨ih0, ih1, ih2, ih3, ih4⟩ := pelicanlaw06_KnowParts.mono_l k
    refine ⟨?_, ?_, ?_, ?_, ?_⟩
    · intro y0 y1 y2 y3 y4
      unfold pelicanlaw06_KnowParts.j0
      repeat' first
      | (with_reducible exact ih0 _ _ _ _ _)
      | (with_reducible exact ih1 _ _ _ _ _)
      | (with_reducible exact ih2 _ _ _)
      | (with_reducible exact ih3 _ _ _ _)
      | (with_reducible exact ih4 _ _ _ _ _)
      | (with_reducible exact pelicanref05_LightAll.mono _ _)
      | (with_reducible exact pelicanref06_In.mono _ _ _ _ _)
      | (with_reducible exact LeO.refl _)
      | (with_reducible exact LeO.none _)
      | (with_reducible refine LeO.ite ?_ ?_)
      | (with_reducible refine LeO.bind ?_ (fun _ => ?_))
      | exact ih0 _ _ _ _ _
      | exact ih1 _ _ _ _ _
      | exact ih2 _ _ _
      | exact ih3 _ _ _ _
      | exact ih4 _ _ _ _ _
      | exact pelicanref05_LightAll.mono _ _
      | exact pelicanref06_In.mono _ _ _ _ _
      | exact LeO.none _
      | refine LeO.ite ?_ ?_
      | refine LeO.bind ?_ (fun _ => ?_)
    · intro y0 y1 y2 y3 y4
      unfold pelicanlaw06_KnowParts.j1
      repeat' first
      | (with_reducible exact ih0 _ _ _ _ _)
      | (with_reducible exact ih1 _ _ _ _ _)
      | (with_reducible exact ih2 _ _ _)
      | (with_reducible exact ih3 _ _ _ _)
      | (with_reducible exact ih4 _ _ _ _ _)
      | (with_reducible exact pelicanref05_LightAll.mono _ _)
      | (with_reducible exact pelicanref06_In.mono _ _ _ _ _)
      | (with_reducible exact LeO.refl _)
      | (with_reducible exact LeO.none _)
      | (with_reducible refine LeO.ite ?_ ?_)
      | (with_reducible refine LeO.bind ?_ (fun _ => ?_))
      | exact ih0 _ _ _ _ _
      | exact ih1 _ _ _ _ _
      | exact ih2 _ _ _
      | exact ih3 _ _ _ _
      | exact ih4 _ _ _ _ _
      | exact pelicanref05_LightAll.mono _ _
      | exact pelicanref06_In.mono _ _ _ _ _
      | exact LeO.none _
      | refine LeO.ite ?_ ?_
      | refine LeO.bind ?_ (fun _ => ?_)
    · intro y0 y1 y2
      unfold pelicanlaw06_KnowParts.j2
      repeat' first
      | (with_reducible exact ih0 _ _ _ _ _)
      | (with_reducible exact ih1 _ _ _ _ _)
      | (with_reducible exact ih2 _ _ _)
      | (with_reducible exact ih3 _ _ _ _)
      | (with_reducible exact ih4 _ _ _ _ _)
      | (with_reducible exact pelicanref05_LightAll.mono _ _)
      | (with_reducible exact pelicanref06_In.mono _ _ _ _ _)
      | (with_reducible exact LeO.refl _)
      | (with_reducible exact LeO.none _)
      | (with_reducible refine LeO.ite ?_ ?_)
      | (with_reducible refine LeO.bind ?_ (fun _ => ?_))
      | exact ih0 _ _ _ _ _
      | exact ih1 _ _ _ _ _
      | exact ih2 _ _ _
      | exact ih3 _ _ _ _
      | exact ih4 _ _ _ _ _
      | exact pelicanref05_LightAll.mono _ _
      | exact pelicanref06_In.mono _ _ _ _ _
      | exact LeO.none _
      | refine LeO.ite ?_ ?_
      | refine LeO.bind ?_ (fun _ => ?_)
    · intro y0 y1 y2 y3
      unfold pelicanlaw06_KnowParts.j3
      repeat' first
      | (with_reducible exact ih0 _ _ _ _ _)
      | (with_reducible exact ih1 _ _ _ _ _)
      | (with_reducible exact ih2 _ _ _)
      | (with_reducible exact ih3 _ _ _ _)
      | (with_reducible exact ih4 _ _ _ _ _)
      | (with_reducible exact pelicanref05_LightAll.mono _ _)
      | (with_reducible exact pelicanref06_In.mono _ _ _ _ _)
      | (with_reducible exact LeO.refl _)
      | (with_reducible exact LeO.none _)
      | (with_reducible refine LeO.ite ?_ ?_)
      | (with_reducible refine LeO.bind ?_ (fun _ => ?_))
      | exact ih0 _ _ _ _ _
      | exact ih1 _ _ _ _ _
      | exact ih2 _ _ _
      | exact ih3 _ _ _ _
      | exact ih4 _ _ _ _ _
      | exact pelicanref05_LightAll.mono _ _
      | exact pelicanref06_In.mono _ _ _ _ _
      | exact LeO.none _
      | refine LeO.ite ?_ ?_
      | refine LeO.bind ?_ (fun _ => ?_)
    · intro y0 y1 y2 y3 y4
      unfold pelicanlaw06_KnowParts.l0
      repeat' first
      | (with_reducible exact ih0 _ _ _ _ _)
      | (with_reducible exact ih1 _ _ _ _ _)
      | (with_reducible exact ih2 _ _ _)
      | (with_reducible exact ih3 _ _ _ _)
      | (with_reducible exact ih4 _ _ _ _ _)
      | (with_reducible exact pelicanref05_LightAll.mono _ _)
      | (with_reducible exact pelicanref06_In.mono _ _ _ _ _)
      | (with_reducible exact LeO.refl _)
      | (with_reducible exact LeO.none _)
      | (with_reducible refine LeO.ite ?_ ?_)
      | (with_reducible refine LeO.bind ?_ (fun _ => ?_))
      | exact ih0 _ _ _ _ _
      | exact ih1 _ _ _ _ _
      | exact ih2 _ _ _
      | exact ih3 _ _ _ _
      | exact ih4 _ _ _ _ _
      | exact pelicanref05_LightAll.mono _ _
      | exact pelicanref06_In.mono _ _ _ _ _
      | exact LeO.none _
      | refine LeO.ite ?_ ?_
      | refine LeO.bind ?_ (fun _ => ?_)
theorem pelicanlaw06_KnowParts.mono : ∀ a0 a1 a2 k, LeO (pelicanlaw06_KnowParts.f k a0 a1 a2) (pelicanlaw06_KnowParts.f (k + 1) a0 a1 a2) := by
  intro a0 a1 a2 k
  obtain ⟨ih0, ih1, ih2, ih3, ih4⟩ := pelicanlaw06_KnowParts.mono_l k
  unfold pelicanlaw06_KnowParts.f
  repeat' first
      | (with_reducible exact ih0 _ _ _ _ _)
      | (with_reducible exact ih1 _ _ _ _ _)
      | (with_reducible exact ih2 _ _ _)
      | (with_reducible exact ih3 _ _ _ _)
      | (with_reducible exact ih4 _ _ _ _ _)
      | (with_reducible exact pelicanref05_LightAll.mono _ _)
      | (with_reducible exact pelicanref06_In.mono _ _ _ _ _)
      | (with_reducible exact LeO.refl _)
      | (with_reducible exact LeO.none _)
      | (with_reducible refine LeO.ite ?_ ?_)
      | (with_reducible refine LeO.bind ?_ (fun _ => ?_))
      | exact ih0 _ _ _ _ _
      | exact ih1 _ _ _ _ _
      | exact ih2 _ _ _
      | exact ih3 _ _ _ _
      | exact ih4 _ _ _ _ _
      | exact pelicanref05_LightAll.mono _ _
      | exact pelicanref06_In.mono _ _ _ _ _
      | exact LeO.none _
      | refine LeO.ite ?_ ?_
      | refine LeO.bind ?_ (fun _ => ?_)
def pelicanlaw06_KnowParts.T12 : Bool × List (List Nat × List Nat) := (true, [([], []), ([], []), ([0, 1], [0, 1]), ([], []), ([], []), ([3, 4], [3, 4]), ([5], [5]), ([2, 6], [2, 6]), ([7, 7, 0, 1, 2, 3, 4, 5, 6, 7], [7])])
def pelicanlaw06_KnowParts.B12 : List Nat := [0, 0, 3, 0, 0, 24, 56, 127, 255]
theorem pelicanlaw06_KnowParts.tab12 : rtab .any (opsOf Try.f9 12) = pelicanlaw06_KnowParts.T12 := by kernel_rfl
theorem pelicanlaw06_KnowParts.bits12 : waitsOk pelicanlaw06_KnowParts.T12.2 pelicanlaw06_KnowParts.B12 = true := by kernel_rfl
def pelicanlaw06_KnowParts.T17 : Bool × List (List Nat × List Nat) := (true, [([], []), ([], []), ([0, 1], [0, 1]), ([2], [2]), ([3], [3]), ([], []), ([], []), ([5, 6], [5, 6]), ([7], [7]), ([4, 8], [4, 8]), ([9, 9, 0, 1, 2, 3, 4, 5, 6, 7, 8, 9], [9])])
def pelicanlaw06_KnowParts.B17 : List Nat := [0, 0, 3, 7, 15, 0, 0, 96, 224, 511, 1023]
theorem pelicanlaw06_KnowParts.tab17 : rtab .any (opsOf Try.f9 17) = pelicanlaw06_KnowParts.T17 := by kernel_rfl
theorem pelicanlaw06_KnowParts.bits17 : waitsOk pelicanlaw06_KnowParts.T17.2 pelicanlaw06_KnowParts.B17 = true := by kernel_rfl
set_option maxHeartbeats 8000000 in
set_option maxRecDepth 100000 in
theorem pelicanlaw06_KnowParts.calls (k : Nat) (A0 : Option Addr) (c0 : Nat) (l0 : List (S24)) (a1 : Int) (a2 : Int) (r : Bool) (w : World) (hr0 : Kd.C k24 w A0 l0.length l0) (hc0 : l0.length ≤ c0) (h : pelicanlaw06_KnowParts.f k l0 a1 a2 = some r) (hr_0 : r = true) :
    Calls Try.prog 9 #[.slice A0 l0.length c0, .int .i64 a1, .int .i64 a2] w fun e w' => e = .returned (.bool r) ∧ Below w.heap.size w w' := by
  have hr_ := Aside0.mk hr_0
  clear hr_0
  have hu24 := Try.underlying24
  have HR0 := Aside0.mk hr0
  have HC0 := Aside0.mk hc0
  clear hr0 hc0
  have HB := Aside0.mk (Below.refl w.heap.size w)
  have H : ((pelicanlaw06_awake.f).bind fun t264 => ((pelicanref05_LightAll.f k l0).bind fun t265 => (if t264 = true then (if t265 = true then ((know_May.f l0).bind fun t266 => (pelicanlaw06_KnowParts.j0 k l0 a1 a2 t264 (!t266))) else (pelicanlaw06_KnowParts.j0 k l0 a1 a2 t264 true)) else (pelicanlaw06_KnowParts.j0 k l0 a1 a2 t264 true)))) = some r := h
  clear h
  replace H := Option.bind_eq_some_iff.mp H
  obtain ⟨t264, A40, H⟩ := H
  replace H : ((pelicanref05_LightAll.f k l0).bind fun t265 => (if t264 = true then (if t265 = true then ((know_May.f l0).bind fun t266 => (pelicanlaw06_KnowParts.j0 k l0 a1 a2 t264 (!t266))) else (pelicanlaw06_KnowParts.j0 k l0 a1 a2 t264 true)) else (pelicanlaw06_KnowParts.j0 k l0 a1 a2 t264 true))) = some r := H
  have A4 := Aside0.mk A40
  clear A40
  replace H := Option.bind_eq_some_iff.mp H
  obtain ⟨t265, A50, H⟩ := H
  replace H : (if t264 = true then (if t265 = true then ((know_May.f l0).bind fun t266 => (pelicanlaw06_KnowParts.j0 k l0 a1 a2 t264 (!t266))) else (pelicanlaw06_KnowParts.j0 k l0 a1 a2 t264 true)) else (pelicanlaw06_KnowParts.j0 k l0 a1 a2 t264 true)) = some r := H
  have A5 := Aside0.mk A50
  clear A50
  have HC6 := Aside0.mk H
  clear H
  go_enter Try.func9, Try.ntmps9
  go_upto_region 3 with (first | ((with_reducible refine gate_callee (f := 10) rfl ?_); refine goesL_ (some 15) rfl rfl Try.func10 (by kernel_rfl) rfl #[] rfl (by (try simp only [List.map_toArray, List.map_cons, List.map_nil]); first | done | rfl | (simp only [List.length_drop, List.length_take]; rfl)) ?_; (with_reducible refine (pelicanlaw06_awake.calls  t264 _ A4.out).mono ?_); rintro e w7 ⟨rfl, hb⟩; refine ⟨_, rfl, ?_⟩; have n0_ := Aside0.mk (below_step (by repeat (first | (with_reducible first | exact HB.out | apply below_alloc | apply pw_below_drewN | apply below_drew1) | exact HB.out)) hb); clear HB; have HB := n0_; clear n0_; (try clear hb); (try clear hb2); (try clear hk); (try clear hi)) | ((with_reducible refine gate_callee (f := 11) rfl ?_); refine goesL_ (some 17) rfl rfl Try.func11 (by kernel_rfl) rfl #[.slice A0 l0.length c0] rfl (by (try simp only [List.map_toArray, List.map_cons, List.map_nil]); first | done | rfl | (simp only [List.length_drop, List.length_take]; rfl)) ?_; (with_reducible refine (pelicanref05_LightAll.calls k _ _ l0 t265 _ ?side1 ?side2 A5.out).mono ?_); (case side1 => repeat (first | exact (Kd.C_below HR0.out HB.out) | (with_reducible refine Kd.C_alloc ?_ _) | (with_reducible refine Kd.C_drewN ?_ _) | (with_reducible refine Kd.C_drew ?_))); (case side2 => exact HC0.out); rintro e w8 ⟨rfl, hb⟩; refine ⟨_, rfl, ?_⟩; have n0_ := Aside0.mk (below_step (by repeat (first | (with_reducible first | exact HB.out | apply below_alloc | apply pw_below_drewN | apply below_drew1) | exact HB.out)) hb); clear HB; have HB := n0_; clear n0_; (try clear hb); (try clear hb2); (try clear hk); (try clear hi)))
  (try simp only [Act.put, List.setIfInBounds_toArray, List.set_cons_zero, List.set_cons_succ])
  go_cut [28] (fun v28 wc => ∃ (kq : Nat) (x28_5 : Bool), v28 = .bool x28_5 ∧ Aside0 (pelicanlaw06_KnowParts.j0 kq l0 a1 a2 t264 x28_5 = some r) ∧ Aside0 (kq ≤ k) ∧ Aside0 (Below w.heap.size w wc))
  case first =>
    have H := HC6.out
    clear HC6
    by_cases c9 : t264 = true
    · subst c9
      have H1 : (if t265 = true then ((know_May.f l0).bind fun t266 => (pelicanlaw06_KnowParts.j0 k l0 a1 a2 true (!t266))) else (pelicanlaw06_KnowParts.j0 k l0 a1 a2 true true)) = some r := by rw [if_pos rfl] at H; exact H
      clear H
      have H := H1
      clear H1
      by_cases c10 : t265 = true
      · subst c10
        have H1 : ((know_May.f l0).bind fun t266 => (pelicanlaw06_KnowParts.j0 k l0 a1 a2 true (!t266))) = some r := by rw [if_pos rfl] at H; exact H
        clear H
        have H := H1
        clear H1
        replace H := Option.bind_eq_some_iff.mp H
        obtain ⟨t266, A110, H⟩ := H
        replace H : (pelicanlaw06_KnowParts.j0 k l0 a1 a2 true (!t266)) = some r := H
        have A11 := Aside0.mk A110
        clear A110
        have H' := Aside0.mk H
        clear H
        go_wp2_with (first | (go_at_call 20; (with_reducible refine (know_May.calls _ _ l0 t266 _ ?side1 ?side2 A11.out).mono ?_); (case side1 => repeat (first | exact (Kd.C_below HR0.out HB.out) | (with_reducible refine Kd.C_alloc ?_ _) | (with_reducible refine Kd.C_drewN ?_ _) | (with_reducible refine Kd.C_drew ?_))); (case side2 => exact HC0.out); rintro e w12 ⟨rfl, hb⟩; have n0_ := Aside0.mk (below_step (by repeat (first | (with_reducible first | exact HB.out | apply below_alloc | apply pw_below_drewN | apply below_drew1) | exact HB.out)) hb); clear HB; have HB := n0_; clear n0_; (try clear hb); (try clear hb2); (try clear hk); (try clear hi)))
        go_meet
        case rel => exact ⟨_, (!t266), (by first | rfl | (simp; done) | (simp [*]; done)), H', ⟨by first | omega | exact Nat.le_refl _⟩, ⟨by repeat (first | (with_reducible first | exact HB.out | apply below_alloc | apply pw_below_drewN | apply below_drew1) | exact HB.out)⟩⟩
      · replace c10 := Bool.eq_false_iff.mpr c10
        subst c10
        have H1 : (pelicanlaw06_KnowParts.j0 k l0 a1 a2 true true) = some r := by rw [if_neg (show ¬ (false = true) by decide)] at H; exact H
        clear H
        have H := H1
        clear H1
        have H' := Aside0.mk H
        clear H
        go_wp2
        go_meet
        case rel => exact ⟨_, (true), (by first | rfl | (simp; done) | (simp [*]; done)), H', ⟨by first | omega | exact Nat.le_refl _⟩, ⟨by repeat (first | (with_reducible first | exact HB.out | apply below_alloc | apply pw_below_drewN | apply below_drew1) | exact HB.out)⟩⟩
    · replace c9 := Bool.eq_false_iff.mpr c9
      subst c9
      have H1 : (pelicanlaw06_KnowParts.j0 k l0 a1 a2 false true) = some r := by rw [if_neg (show ¬ (false = true) by decide)] at H; exact H
      clear H
      have H := H1
      clear H1
      have H' := Aside0.mk H
      clear H
      go_wp2
      go_meet
      case rel => exact ⟨_, (true), (by first | rfl | (simp; done) | (simp [*]; done)), H', ⟨by first | omega | exact Nat.le_refl _⟩, ⟨by repeat (first | (with_reducible first | exact HB.out | apply below_alloc | apply pw_below_drewN | apply below_drew1) | exact HB.out)⟩⟩
  case rest =>
    clear HC6
    try clear c1
    try clear p2
    try clear c9
    try clear c10
    try clear c11
    obtain ⟨kq, x28_5, rfl, HA, HJ5, HB⟩ := hcut
    cases kq with
    | zero => exact absurd HA.out (by simp [pelicanlaw06_KnowParts.j0])
    | succ kj5 =>
      have H := HA.out
      clear HA
      simp only [pelicanlaw06_KnowParts.j0] at H
      by_cases c13 : x28_5 = true
      · subst c13
        have H1 : (some t264) = some r := by rw [if_pos rfl] at H; exact H
        clear H
        have H := H1
        clear H1
        obtain rfl := Option.some.inj H
        go_wp2
        go_ret
        exact ⟨by first | rfl | (simp [errW_none, errW_some] <;> rfl) | (simp [*, errW_none, errW_some] <;> rfl), by repeat (first | (with_reducible first | exact HB.out | apply below_alloc | apply pw_below_drewN | apply below_drew1) | exact HB.out)⟩
      · replace c13 := Bool.eq_false_iff.mpr c13
        subst c13
        have H1 : ((know_Parts.f l0).bind fun t267 => (if a2 ≥ 0 then (pelicanlaw06_KnowParts.j1 kj5 l0 a1 a2 t267 (decide (a2 < (l0.length : Int)))) else (pelicanlaw06_KnowParts.j1 kj5 l0 a1 a2 t267 false))) = some r := by rw [if_neg (show ¬ (false = true) by decide)] at H; exact H
        clear H
        have H := H1
        clear H1
        replace H := Option.bind_eq_some_iff.mp H
        obtain ⟨t267, A140, H⟩ := H
        replace H : (if a2 ≥ 0 then (pelicanlaw06_KnowParts.j1 kj5 l0 a1 a2 t267 (decide (a2 < (l0.length : Int)))) else (pelicanlaw06_KnowParts.j1 kj5 l0 a1 a2 t267 false)) = some r := H
        have A14 := Aside0.mk A140
        clear A140
        have HC15 := Aside0.mk H
        clear H
        go_upto_region 6 with (first | ((with_reducible refine gate_callee (f := 14) rfl ?_); refine goesL_ (some 31) rfl rfl Try.func14 (by kernel_rfl) rfl #[.slice A0 l0.length c0] rfl (by (try simp only [List.map_toArray, List.map_cons, List.map_nil]); first | done | rfl | (simp only [List.length_drop, List.length_take]; rfl)) ?_; (with_reducible refine (know_Parts.calls (fun k_ => k_ < w.heap.size) _ _ l0 t267 _ ?side1 A14.out).mono ?_); (case side1 => exact Kd.V_mk HC0.out (Kd.F_below (Kd.C_F k24_heap HR0.out) (by repeat (first | (with_reducible first | exact HB.out | apply below_alloc | apply pw_below_drewN | apply below_drew1) | exact HB.out)))); rintro e w16 ⟨v268, rfl, ho0, hb⟩; refine ⟨_, rfl, ?_⟩; have n0_ := Aside0.mk (Kd.N_lower (Kd.N_mono (ok' := fun k_ => True) ho0 (fun k_ hk_ => trivial)) (below_size (by repeat (first | (with_reducible first | exact HB.out | apply below_alloc | apply pw_below_drewN | apply below_drew1) | exact HB.out)))); have n1_ := Aside0.mk (below_step (by repeat (first | (with_reducible first | exact HB.out | apply below_alloc | apply pw_below_drewN | apply below_drew1) | exact HB.out)) hb); clear HB; have HO269 := n0_; have HB := n1_; clear n0_ n1_; (try clear hb); (try clear hb2); (try clear hk); (try clear hi); (try clear ho0)))
        (try simp only [Act.put, List.setIfInBounds_toArray, List.set_cons_zero, List.set_cons_succ])
        go_cut [39] (fun v39 wc => ∃ (kq : Nat) (x39_14 : Bool), v39 = .bool x39_14 ∧ Aside0 (pelicanlaw06_KnowParts.j1 kq l0 a1 a2 t267 x39_14 = some r) ∧ Aside0 (kq ≤ kj5) ∧ Aside0 (Kd.N k24 24 wc w.heap.size (fun _ => True) v268 t267) ∧ Aside0 (Below w.heap.size w wc))
        case first =>
          have H := HC15.out
          clear HC15
          by_cases c17 : a2 ≥ 0
          · rw [if_pos c17] at H
            have c17b0 : decide (0 ≤ a2) = true := decide_eq_true c17
            clear c17
            (first | rw [c17b0] | (simp only [i64_w, i32_w]; rw [c17b0]) | skip)
            have H' := Aside0.mk H
            clear H
            go_wp2
            go_meet
            case rel => exact ⟨_, (decide (a2 < (l0.length : Int))), (by first | rfl | (simp; done) | (simp [*]; done)), H', ⟨by have := HJ5.out; first | omega | exact Nat.le_refl _⟩, ⟨by (with_reducible repeat (first | apply Kd.N_alloc | apply Kd.N_drewN | apply Kd.N_drew)); exact HO269.out⟩, ⟨by repeat (first | (with_reducible first | exact HB.out | apply below_alloc | apply pw_below_drewN | apply below_drew1) | exact HB.out)⟩⟩
          · rw [if_neg c17] at H
            have c17b0 : decide (0 ≤ a2) = false := decide_eq_false c17
            clear c17
            (first | rw [c17b0] | (simp only [i64_w, i32_w]; rw [c17b0]) | skip)
            have H' := Aside0.mk H
            clear H
            go_wp2
            go_meet
            case rel => exact ⟨_, (false), (by first | rfl | (simp; done) | (simp [*]; done)), H', ⟨by have := HJ5.out; first | omega | exact Nat.le_refl _⟩, ⟨by (with_reducible repeat (first | apply Kd.N_alloc | apply Kd.N_drewN | apply Kd.N_drew)); exact HO269.out⟩, ⟨by repeat (first | (with_reducible first | exact HB.out | apply below_alloc | apply pw_below_drewN | apply below_drew1) | exact HB.out)⟩⟩
        case rest =>
          clear HC15
          try clear c1
          try clear p2
          try clear c9
          try clear c10
          try clear c11
          try clear c13
          try clear c14
          try clear c17
          try clear c17b0
          try clear p2
          obtain ⟨kq, x39_14, rfl, HA, HJ14, HO_9, HB⟩ := hcut
          cases kq with
          | zero => exact absurd HA.out (by simp [pelicanlaw06_KnowParts.j1])
          | succ kj14 =>
            have H := HA.out
            clear HA
            simp only [pelicanlaw06_KnowParts.j1] at H
            have HC18 := Aside0.mk H
            clear H
            go_upto_if 39 with (fail)
            go_cut [] (fun wc => ∃ (kq : Nat), Aside0 (pelicanlaw06_KnowParts.j2 kq l0 a1 t267 = some r) ∧ Aside0 (kq ≤ kj14) ∧ Aside0 (Kd.N k24 24 wc w.heap.size (fun _ => True) v268 t267) ∧ Aside0 (Below w.heap.size w wc))
            case first =>
              have H := HC18.out
              clear HC18
              by_cases c19 : x39_14 = true
              · subst c19
                have H1 : (if 0 ≤ a2 then (if a2 < (l0.length : Int) then ((pelicanref06_In.f kj14 t267 ((rd_T24 l0 a2).f0) ((rd_T24 l0 a2).f1) ((rd_T24 l0 a2).f2)).bind fun t271 => (if t271 = true then (pelicanlaw06_KnowParts.j2 kj14 l0 a1 t267) else (some false))) else (none)) else (none)) = some r := by rw [if_pos rfl] at H; exact H
                clear H
                have H := H1
                clear H1
                by_cases c20 : 0 ≤ a2
                · rw [if_pos c20] at H
                  have c20b0 : decide (0 ≤ a2) = true := decide_eq_true c20
                  clear c20
                  (first | rw [c20b0] | (simp only [i64_w, i32_w]; rw [c20b0]) | skip)
                  by_cases c21 : a2 < (l0.length : Int)
                  · rw [if_pos c21] at H
                    have c21b0 : decide (a2 < (l0.length : Int)) = true := decide_eq_true c21
                    clear c21
                    replace H := Option.bind_eq_some_iff.mp H
                    obtain ⟨t271, A220, H⟩ := H
                    replace H : (if t271 = true then (pelicanlaw06_KnowParts.j2 kj14 l0 a1 t267) else (some false)) = some r := H
                    have A22 := Aside0.mk A220
                    clear A220
                    by_cases c23 : t271 = true
                    · subst c23
                      have H1 : (pelicanlaw06_KnowParts.j2 kj14 l0 a1 t267) = some r := by rw [if_pos rfl] at H; exact H
                      clear H
                      have H := H1
                      clear H1
                      have H' := Aside0.mk H
                      clear H
                      have p270 : 0 ≤ (a2 : Int) := of_decide_eq_true (by first | (with_reducible assumption) | assumption)
                      have q270 : a2 < (l0.length : Int) := of_decide_eq_true (by first | (with_reducible assumption) | assumption)
                      obtain ⟨ad270, A270_2, c270_2, e270, hx270_0, hx270_1, hx270_2, hl270_2, hi270_2⟩ := at_T24 HR0.out a2 p270 q270
                      cases e270
                      replace hx270_0 := (HB.out.cell (World.block_lt_of_cell? w _ hx270_0)).trans hx270_0
                      replace hx270_1 := (HB.out.cell (World.block_lt_of_cell? w _ hx270_1)).trans hx270_1
                      replace hx270_2 := (HB.out.cell (World.block_lt_of_cell? w _ hx270_2)).trans hx270_2
                      have HR270_2 := Aside0.mk hi270_2
                      have HC270_2 := Aside0.mk hl270_2
                      clear hi270_2 hl270_2
                      replace p270 := eq_true p270
                      replace q270 := eq_true q270
                      obtain ⟨Ao24, co24, eo24⟩ := Kd.N_slice HO_9.out
                      subst eo24
                      go_wp2_with (first | ((with_reducible refine gate_callee (f := 25) rfl ?_); refine goesL_ (some 45) rfl rfl Try.func25 (by kernel_rfl) rfl #[.slice Ao24 t267.length co24, .agg #[.int .i64 ((rd_T24 l0 a2).f0), .int .i64 ((rd_T24 l0 a2).f1), .slice A270_2 ((rd_T24 l0 a2).f2).length c270_2]] rfl (by (try simp only [List.map_toArray, List.map_cons, List.map_nil]); first | done | rfl | (simp only [List.length_drop, List.length_take]; rfl)) ?_; (with_reducible refine (pelicanref06_In.calls kj14 _ _ t267 ((rd_T24 l0 a2).f0) ((rd_T24 l0 a2).f1) _ _ ((rd_T24 l0 a2).f2) true _ ?side1 ?side2 ?side3 ?side4 A22.out).mono ?_); (case side1 => repeat (first | exact (Kd.N_reads' HO_9.out).2.2 | (with_reducible refine Kd.C_alloc ?_ _) | (with_reducible refine Kd.C_drewN ?_ _) | (with_reducible refine Kd.C_drew ?_))); (case side2 => exact (Kd.N_reads' HO_9.out).2.1); (case side3 => repeat (first | exact (Kd.C_below HR270_2.out HB.out) | (with_reducible refine Kd.C_alloc ?_ _) | (with_reducible refine Kd.C_drewN ?_ _) | (with_reducible refine Kd.C_drew ?_))); (case side4 => exact HC270_2.out); rintro e w25 ⟨rfl, hb⟩; refine ⟨_, rfl, ?_⟩; have n0_ := Aside0.mk (Kd.N_below (by (with_reducible repeat (first | apply Kd.N_alloc | apply Kd.N_drewN | apply Kd.N_drew)); exact HO_9.out) hb); have n1_ := Aside0.mk (below_step (by repeat (first | (with_reducible first | exact HB.out | apply below_alloc | apply pw_below_drewN | apply below_drew1) | exact HB.out)) hb); clear HO_9; clear HB; have HO_9 := n0_; have HB := n1_; clear n0_ n1_; (try clear hb); (try clear hb2); (try clear hk); (try clear hi)))
                      go_meet
                      case rel => exact ⟨_, H', ⟨by have := HJ5.out; have := HJ14.out; first | omega | exact Nat.le_refl _⟩, ⟨by (with_reducible repeat (first | apply Kd.N_alloc | apply Kd.N_drewN | apply Kd.N_drew)); exact HO_9.out⟩, ⟨by repeat (first | (with_reducible first | exact HB.out | apply below_alloc | apply pw_below_drewN | apply below_drew1) | exact HB.out)⟩⟩
                    · replace c23 := Bool.eq_false_iff.mpr c23
                      subst c23
                      have H1 : (some false) = some r := by rw [if_neg (show ¬ (false = true) by decide)] at H; exact H
                      clear H
                      have H := H1
                      clear H1
                      exact absurd ((Option.some.inj H).trans hr_.out) (by decide)
                  · rw [if_neg c21] at H
                    exact absurd H (by simp)
                · rw [if_neg c20] at H
                  exact absurd H (by simp)
              · replace c19 := Bool.eq_false_iff.mpr c19
                subst c19
                have H1 : (pelicanlaw06_KnowParts.j2 kj14 l0 a1 t267) = some r := by rw [if_neg (show ¬ (false = true) by decide)] at H; exact H
                clear H
                have H := H1
                clear H1
                have H' := Aside0.mk H
                clear H
                go_wp2
                go_meet
                case rel => exact ⟨_, H', ⟨by have := HJ5.out; have := HJ14.out; first | omega | exact Nat.le_refl _⟩, ⟨by (with_reducible repeat (first | apply Kd.N_alloc | apply Kd.N_drewN | apply Kd.N_drew)); exact HO_9.out⟩, ⟨by repeat (first | (with_reducible first | exact HB.out | apply below_alloc | apply pw_below_drewN | apply below_drew1) | exact HB.out)⟩⟩
            case rest =>
              clear HC18
              try clear c1
              try clear c2
              try clear p2
              try clear q2
              try clear hx2
              try clear c9
              try clear c10
              try clear c11
              try clear c13
              try clear c14
              try clear c17
              try clear c17b0
              try clear c19
              try clear c20
              try clear c20b0
              try clear c21
              try clear c21b0
              try clear c23
              try clear c25
              try clear c27
              try clear p27
              try clear q27
              try clear hx27
              try clear hx270_0
              try clear hx270_1
              try clear hx270_2
              try clear p2
              try clear p270
              try clear q270
              obtain ⟨kq, HA, HJ17, HO_9, HB⟩ := hcut
              cases kq with
              | zero => exact absurd HA.out (by simp [pelicanlaw06_KnowParts.j2])
              | succ kj17 =>
                have H := HA.out
                clear HA
                simp only [pelicanlaw06_KnowParts.j2] at H
                have HC28 := Aside0.mk H
                clear H
                go_upto_region 10 with (fail)
                go_cut [55] (fun v55 wc => ∃ (kq : Nat) (x55_27 : Bool), v55 = .bool x55_27 ∧ Aside0 (pelicanlaw06_KnowParts.j3 kq l0 a1 t267 x55_27 = some r) ∧ Aside0 (kq ≤ kj17) ∧ Aside0 (Kd.N k24 24 wc w.heap.size (fun _ => True) v268 t267) ∧ Aside0 (Below w.heap.size w wc))
                case first =>
                  have H := HC28.out
                  clear HC28
                  by_cases c29 : a1 < 0
                  · rw [if_pos c29] at H
                    have c29b0 : decide (a1 < 0) = true := decide_eq_true c29
                    clear c29
                    (first | rw [c29b0] | (simp only [i64_w, i32_w]; rw [c29b0]) | skip)
                    have H' := Aside0.mk H
                    clear H
                    go_wp2
                    go_meet
                    case rel => exact ⟨_, (true), (by first | rfl | (simp; done) | (simp [*]; done)), H', ⟨by have := HJ5.out; have := HJ14.out; have := HJ17.out; first | omega | exact Nat.le_refl _⟩, ⟨by (with_reducible repeat (first | apply Kd.N_alloc | apply Kd.N_drewN | apply Kd.N_drew)); exact HO_9.out⟩, ⟨by repeat (first | (with_reducible first | exact HB.out | apply below_alloc | apply pw_below_drewN | apply below_drew1) | exact HB.out)⟩⟩
                  · rw [if_neg c29] at H
                    have c29b0 : decide (a1 < 0) = false := decide_eq_false c29
                    clear c29
                    (first | rw [c29b0] | (simp only [i64_w, i32_w]; rw [c29b0]) | skip)
                    have H' := Aside0.mk H
                    clear H
                    obtain ⟨Ao30, co30, eo30⟩ := Kd.N_slice HO_9.out
                    subst eo30
                    go_wp2
                    go_meet
                    case rel => exact ⟨_, (decide (a1 ≥ (t267.length : Int))), (by first | rfl | (simp; done) | (simp [*]; done)), H', ⟨by have := HJ5.out; have := HJ14.out; have := HJ17.out; first | omega | exact Nat.le_refl _⟩, ⟨by (with_reducible repeat (first | apply Kd.N_alloc | apply Kd.N_drewN | apply Kd.N_drew)); exact HO_9.out⟩, ⟨by repeat (first | (with_reducible first | exact HB.out | apply below_alloc | apply pw_below_drewN | apply below_drew1) | exact HB.out)⟩⟩
                case rest =>
                  clear HC28
                  try clear c1
                  try clear c2
                  try clear p2
                  try clear q2
                  try clear hx2
                  try clear c9
                  try clear c10
                  try clear c11
                  try clear c13
                  try clear c14
                  try clear c17
                  try clear c17b0
                  try clear c19
                  try clear c20
                  try clear c20b0
                  try clear c21
                  try clear c21b0
                  try clear c23
                  try clear c25
                  try clear c27
                  try clear p27
                  try clear q27
                  try clear hx27
                  try clear c29
                  try clear c29b0
                  try clear hx270_0
                  try clear hx270_1
                  try clear hx270_2
                  try clear p2
                  try clear p27
                  try clear p270
                  try clear q2
                  try clear q27
                  try clear q270
                  obtain ⟨kq, x55_27, rfl, HA, HJ27, HO_9, HB⟩ := hcut
                  cases kq with
                  | zero => exact absurd HA.out (by simp [pelicanlaw06_KnowParts.j3])
                  | succ kj27 =>
                    have H := HA.out
                    clear HA
                    simp only [pelicanlaw06_KnowParts.j3] at H
                    by_cases c31 : x55_27 = true
                    · subst c31
                      have H1 : (some true) = some r := by rw [if_pos rfl] at H; exact H
                      clear H
                      have H := H1
                      clear H1
                      obtain rfl := Option.some.inj H
                      go_wp2
                      go_ret
                      exact ⟨by first | rfl | (simp [errW_none, errW_some] <;> rfl) | (simp [*, errW_none, errW_some] <;> rfl), by repeat (first | (with_reducible first | exact HB.out | apply below_alloc | apply pw_below_drewN | apply below_drew1) | exact HB.out)⟩
                    · replace c31 := Bool.eq_false_iff.mpr c31
                      subst c31
                      have H1 : (if 0 ≤ a1 then (if a1 ≤ (t267.length : Int) then (if a1 < (t267.length : Int) then ((pelicanref06_In.f kj27 (t267.take (a1 : Int).toNat) ((rd_T24 t267 a1).f0) ((rd_T24 t267 a1).f1) ((rd_T24 t267 a1).f2)).bind fun t278 => ((pelicanref06_In.f kj27 l0 ((rd_T24 t267 a1).f0) ((rd_T24 t267 a1).f1) ((rd_T24 t267 a1).f2)).bind fun t280 => (pelicanlaw06_KnowParts.l0 kj27 a1 t267 t278 t280 0))) else (none)) else (none)) else (none)) = some r := by rw [if_neg (show ¬ (false = true) by decide)] at H; exact H
                      clear H
                      have H := H1
                      clear H1
                      by_cases c32 : 0 ≤ a1
                      · rw [if_pos c32] at H
                        have c32b0 := eq_true c32
                        have c32b1 : decide (0 ≤ a1) = true := decide_eq_true c32
                        clear c32
                        by_cases c33 : a1 ≤ (t267.length : Int)
                        · rw [if_pos c33] at H
                          have c33b0 := eq_true c33
                          have c33b1 : decide (a1 ≤ (t267.length : Int)) = true := decide_eq_true c33
                          clear c33
                          obtain ⟨y272, hy272⟩ : ∃ y_ : List (S24), y_ = (t267.take (a1 : Int).toNat) := ⟨_, rfl⟩
                          replace H : (if a1 < (t267.length : Int) then ((pelicanref06_In.f kj27 y272 ((rd_T24 t267 a1).f0) ((rd_T24 t267 a1).f1) ((rd_T24 t267 a1).f2)).bind fun t278 => ((pelicanref06_In.f kj27 l0 ((rd_T24 t267 a1).f0) ((rd_T24 t267 a1).f1) ((rd_T24 t267 a1).f2)).bind fun t280 => (pelicanlaw06_KnowParts.l0 kj27 a1 t267 t278 t280 0))) else (none)) = some r := by first | (rw [hy272]; with_reducible exact H) | (have H2_ := (Option.bind_some _ _).symm.trans H; rw [hy272]; with_reducible exact H2_) | (have H2_ := (Option.bind_some _ _).symm.trans H; with_reducible exact H2_) | with_reducible exact H | (rw [hy272]; exact H) | exact H
                          have Ny272 := Aside0.mk hy272
                          clear hy272
                          by_cases c34 : a1 < (t267.length : Int)
                          · rw [if_pos c34] at H
                            have c34b0 : decide (a1 < (t267.length : Int)) = true := decide_eq_true c34
                            clear c34
                            replace H := Option.bind_eq_some_iff.mp H
                            obtain ⟨t278, A350, H⟩ := H
                            replace H : ((pelicanref06_In.f kj27 l0 ((rd_T24 t267 a1).f0) ((rd_T24 t267 a1).f1) ((rd_T24 t267 a1).f2)).bind fun t280 => (pelicanlaw06_KnowParts.l0 kj27 a1 t267 t278 t280 0)) = some r := H
                            have A35 := Aside0.mk A350
                            clear A350
                            replace H := Option.bind_eq_some_iff.mp H
                            obtain ⟨t280, A360, H⟩ := H
                            replace H : (pelicanlaw06_KnowParts.l0 kj27 a1 t267 t278 t280 0) = some r := H
                            have A36 := Aside0.mk A360
                            clear A360
                            have H' := Aside0.mk H
                            clear H
                            try go_wp2
                            have n0_ := Aside0.mk (Kd.N_drew HO_9.out)
                            have n1_ := Aside0.mk (below_drew1 HB.out)
                            clear HO_9
                            clear HB
                            have HO_9 := n0_
                            have HB := n1_
                            clear n0_ n1_
                            obtain ⟨Ao39, co39, eo39⟩ := Kd.N_slice HO_9.out
                            (first | subst eo39 | (injection eo39 with f1_ f2_ f3_; have f4_ := f1_.symm; have f5_ := f3_.symm; clear f1_ f2_ f3_; subst f4_; subst f5_))
                            have q38 : (a1 : Int) ≤ ((t267.length : Int) : Int) := of_decide_eq_true (by first | (with_reducible assumption) | assumption)
                            obtain ⟨i038, hi038, _, hsz38, _⟩ := info_parts info24
                            have hroom38 : t267.length ≤ co39 := (Kd.N_reads' HO_9.out).2.1
                            have hC38 : Kd.F k24 _ _ Ao39 t267.length t267 := (Kd.V_at (base := w.heap.size) (Kd.N_V HO_9.out)).2.2
                            have hcut38 := cut_to (P := Try.prog) 22 24 .i64 Try.underlying22 hi038 Ao39 t267.length co39 a1 (of_decide_eq_true (by first | (with_reducible assumption) | assumption)) q38 hroom38
                            have hr38 := Kd.F_take (m := (a1 : Int).toNat) hC38 (by omega)
                            have hy38 : y272.length = (a1 : Int).toNat := (by rw [Ny272.out, List.length_take]; omega)
                            rw [← Ny272.out] at hr38
                            rw [← hy38] at hcut38
                            have HO276 := Aside0.mk (show Kd.V k24 24 _ w.heap.size _ (.slice Ao39 y272.length co39) y272 from Kd.V_mk (by omega) hr38)
                            have HC276 := Aside0.mk (show y272.length ≤ co39 from by omega)
                            clear hr38 hC38 hroom38 hi038 hsz38
                            have KY38 := Aside0.mk hy38
                            clear hy38
                            replace q38 := eq_true q38
                            have p277 : 0 ≤ (a1 : Int) := of_decide_eq_true (by first | (with_reducible assumption) | assumption)
                            have q277 : a1 < (t267.length : Int) := of_decide_eq_true (by first | (with_reducible assumption) | assumption)
                            obtain ⟨ad277, A277_2, c277_2, e277, hx277_0, hx277_1, hx277_2, hl277_2, hi277_2⟩ := at_T24 (Kd.N_reads' HO_9.out).2.2 a1 p277 q277
                            cases e277
                            obtain ⟨ce277, hce277, hMe277, hcc277⟩ := Kd.N_get HO_9.out z24 a1 p277 (by first | exact q277 | exact of_decide_eq_true (by first | (with_reducible assumption) | assumption) | (have e_ := (Kd.N_reads' HO_9.out).1; omega))
                            obtain ⟨ua277_2, uc277_2, rfl, ul277_2, ge277_2⟩ := k24_openF hMe277
                            have hv277_2 := hcc277 2 _ rfl
                            rw [add_field _ _ 2 (by omega)] at hv277_2
                            replace hv277_2 := Option.some.inj (hv277_2.symm.trans hx277_2)
                            injection hv277_2 with hva_ hvn_ hvc_
                            rw [hva_] at ge277_2
                            rw [hvc_] at ul277_2
                            have HL277_2 := Aside0.mk (show Kd.V k24 24 _ w.heap.size _ _ ((rd_T24 t267 a1).f2) from Kd.V_mk ul277_2 ge277_2)
                            clear hva_ hvn_ hvc_ ge277_2 ul277_2
                            clear hcc277 hce277
                            have HR277_2 := Aside0.mk hi277_2
                            have HC277_2 := Aside0.mk hl277_2
                            clear hi277_2 hl277_2
                            replace p277 := eq_true p277
                            replace q277 := eq_true q277
                            refine start_ (n := 9) (S := fun w' => w'.cell? (ad277.add ((a1).toNat * 3)) = some (.int .i64 ((rd_T24 t267 a1).f0)) ∧ w'.cell? ⟨(ad277.add ((a1).toNat * 3)).block, (ad277.add ((a1).toNat * 3)).off + 1, none⟩ = some (.int .i64 ((rd_T24 t267 a1).f1)) ∧ w'.cell? ⟨(ad277.add ((a1).toNat * 3)).block, (ad277.add ((a1).toNat * 3)).off + 2, none⟩ = some (.slice A277_2 ((rd_T24 t267 a1).f2).length c277_2)) (ds := []) #[false, false, false, false, false, false, false, false, false] (by kernel_rfl) rfl rfl ⟨hx277_0, hx277_1, hx277_2⟩ (fun hHeld => ?_); refine with_tabW pelicanlaw06_KnowParts.tab12 pelicanlaw06_KnowParts.bits12 (fun HT_ HW_ => ?_)
                            generalize wc.drew = w37 at HO_9 HB HL277_2 HO276 HR277_2 hx277_0 hx277_1 hx277_2 hHeld ⊢
                            refine pure_ (i := 0) (N := some 56) (v := ?_) (a' := ?_) #[true, false, false, false, false, false, false, false, false] rfl rfl (any_of HT_.out (by kernel_rfl)) (fun _ _ _ h => h) (Or.inl ⟨by rfl, ?_⟩) ?_ ?_
                            rotate_left
                            · intro w'
                              go_simp
                              with_reducible rfl
                            rotate_left
                            · simp only [Act.put, List.setIfInBounds_toArray, List.set_cons_zero, List.set_cons_succ, i64_w, i32_w]
                              rfl
                            refine pure_ (i := 1) (N := some 57) (v := ?_) (a' := ?_) #[true, true, false, false, false, false, false, false, false] rfl rfl (any_of HT_.out (by kernel_rfl)) (fun _ _ _ h => h) (Or.inl ⟨by rfl, ?_⟩) ?_ ?_
                            rotate_left
                            · intro w'
                              go_simp
                              with_reducible rfl
                            rotate_left
                            · simp only [Act.put, List.setIfInBounds_toArray, List.set_cons_zero, List.set_cons_succ, i64_w, i32_w]
                              rfl
                            refine pure_ (i := 2) (N := some 58) (v := ?_) (a' := ?_) #[true, true, true, false, false, false, false, false, false] rfl rfl (any_of HT_.out (by kernel_rfl)) (fun _ _ _ h => h) (Or.inl ⟨by rfl, ?_⟩) ?_ ?_
                            rotate_left
                            · intro w'
                              go_simp
                              with_reducible rfl
                            rotate_left
                            · simp only [Act.put, List.setIfInBounds_toArray, List.set_cons_zero, List.set_cons_succ, i64_w, i32_w]
                              rfl
                            refine pure_ (i := 3) (N := some 59) (v := ?_) (a' := ?_) #[true, true, true, true, false, false, false, false, false] rfl rfl (any_of HT_.out (by kernel_rfl)) (fun _ _ _ h => h) (Or.inl ⟨by rfl, ?_⟩) ?_ ?_
                            rotate_left
                            · intro w'
                              go_simp
                              with_reducible rfl
                            rotate_left
                            · simp only [Act.put, List.setIfInBounds_toArray, List.set_cons_zero, List.set_cons_succ, i64_w, i32_w]
                              rfl
                            refine pure_ (i := 4) (N := some 60) (v := ?_) (a' := ?_) #[true, true, true, true, true, false, false, false, false] rfl rfl (any_of HT_.out (by kernel_rfl)) (fun _ _ _ h => h) (Or.inl ⟨by rfl, ?_⟩) ?_ ?_
                            rotate_left
                            · intro w'
                              go_simp
                              with_reducible rfl
                            rotate_left
                            · simp only [Act.put, List.setIfInBounds_toArray, List.set_cons_zero, List.set_cons_succ, i64_w, i32_w]
                              rfl
                            refine pure_ (i := 5) (N := some 61) (v := ?_) (a' := ?_) #[true, true, true, true, true, true, false, false, false] rfl rfl (any_of HT_.out (by kernel_rfl)) (fun _ _ _ h => h) (Or.inl ⟨by rfl, ?_⟩) ?_ ?_
                            rotate_left
                            · intro w'
                              go_simp
                              with_reducible rfl
                            rotate_left
                            · simp only [Act.put, List.setIfInBounds_toArray, List.set_cons_zero, List.set_cons_succ, i64_w, i32_w]
                              rfl
                            refine take_ (i := 6) (N := some 62) (v := ?_) (a' := ?_) #[true, true, true, true, true, true, true, false, false] rfl rfl (take_ofW HT_.out HW_.out (by kernel_rfl)) (fun _ _ _ h => h) (Or.inl ⟨by rfl, ?_⟩) hHeld ?_ ?_
                            rotate_left
                            · rintro w' ⟨s0, s1, s2⟩
                              go_simp
                              with_reducible rfl
                            rotate_left
                            · simp only [Act.put, List.setIfInBounds_toArray, List.set_cons_zero, List.set_cons_succ, i64_w, i32_w]
                              rfl
                            refine one_ (i := 7) (N := some 63) #[true, true, true, true, true, true, true, true, false] rfl rfl (one_of HT_.out (by kernel_rfl)) (by decide) (fun K hK => ?_)
                            refine goes_ Try.func25 (by kernel_rfl) rfl #[.slice (some ad277) y272.length co39, .agg #[.int .i64 ((rd_T24 t267 a1).f0), .int .i64 ((rd_T24 t267 a1).f1), .slice A277_2 ((rd_T24 t267 a1).f2).length c277_2]] (by rfl) rfl rfl (by (try simp only [List.map_toArray, List.map_cons, List.map_nil]); first | done | rfl | (simp only [List.length_drop, List.length_take]; rfl)) ?_
                            with_reducible refine (pelicanref06_In.calls kj27 _ _ y272 ((rd_T24 t267 a1).f0) ((rd_T24 t267 a1).f1) _ _ ((rd_T24 t267 a1).f2) t278 _ ?side1 ?side2 ?side3 ?side4 A35.out).mono ?_
                            (case side1 => repeat (first | exact (Kd.V_reads' HO276.out).2.2 | (with_reducible refine Kd.C_alloc ?_ _) | (with_reducible refine Kd.C_drewN ?_ _) | (with_reducible refine Kd.C_drew ?_)))
                            (case side2 => exact (Kd.V_reads' HO276.out).2.1)
                            (case side3 => repeat (first | exact (by repeat (first | (with_reducible exact HR277_2.out) | (with_reducible refine Kd.C_alloc ?_ _) | (with_reducible refine Kd.C_drewN ?_ _) | (with_reducible refine Kd.C_drew ?_) | exact HR277_2.out)) | (with_reducible refine Kd.C_alloc ?_ _) | (with_reducible refine Kd.C_drewN ?_ _) | (with_reducible refine Kd.C_drew ?_)))
                            (case side4 => exact HC277_2.out)
                            rintro e w40 ⟨rfl, hb⟩
                            have HS0_ := (hb.cell (World.block_lt_of_cell? _ _ (hHeld.1))).trans (hHeld.1)
                            have HS1_ := (hb.cell (World.block_lt_of_cell? _ _ (hHeld.2.1))).trans (hHeld.2.1)
                            have HS2_ := (hb.cell (World.block_lt_of_cell? _ _ (hHeld.2.2))).trans (hHeld.2.2)
                            refine ⟨_, rfl, ?_⟩
                            have n0_ := Aside0.mk (Kd.N_below (by (with_reducible repeat (first | apply Kd.N_alloc | apply Kd.N_drewN | apply Kd.N_drew)); exact HO_9.out) hb)
                            have n1_ := Aside0.mk (Kd.V_below (by (with_reducible repeat (first | apply Kd.V_alloc | apply Kd.V_drewN | apply Kd.V_drew)); exact HO276.out) hb)
                            have n2_ := Aside0.mk (Kd.V_below (by (with_reducible repeat (first | apply Kd.V_alloc | apply Kd.V_drewN | apply Kd.V_drew)); exact HL277_2.out) hb)
                            have n3_ := Aside0.mk (Kd.C_below (by repeat (first | (with_reducible exact HR277_2.out) | (with_reducible refine Kd.C_alloc ?_ _) | (with_reducible refine Kd.C_drewN ?_ _) | (with_reducible refine Kd.C_drew ?_) | exact HR277_2.out)) hb)
                            have n4_ := Aside0.mk (below_step (by repeat (first | (with_reducible first | exact HB.out | apply below_alloc | apply pw_below_drewN | apply below_drew1) | exact HB.out)) hb)
                            clear HO_9
                            clear HO276
                            clear HL277_2
                            clear HR277_2
                            clear HB
                            have HO_9 := n0_
                            have HO276 := n1_
                            have HL277_2 := n2_
                            have HR277_2 := n3_
                            have HB := n4_
                            clear n0_ n1_ n2_ n3_ n4_
                            (try clear hb)
                            (try clear hb2)
                            (try clear hk)
                            (try clear hi)
                            refine hK.out _ _ ⟨HS0_, HS1_, HS2_⟩ (fun hHeld => ?_)
                            clear hK K
                            refine norm_ (a' := ?_) ?_ ?_
                            rotate_left
                            · show Act.put _ (some 63) _ = _
                              simp only [Act.put, List.setIfInBounds_toArray, List.set_cons_zero, List.set_cons_succ, i64_w, i32_w]
                              rfl
                            refine pure_ (i := 8) (N := some 11) (v := ?_) (a' := ?_) #[true, true, true, true, true, true, true, true, true] rfl rfl (any_of HT_.out (by kernel_rfl)) (fun _ _ _ h => h) (Or.inl ⟨by rfl, ?_⟩) ?_ ?_
                            rotate_left
                            · intro w'
                              go_simp
                              with_reducible rfl
                            rotate_left
                            · simp only [Act.put, List.setIfInBounds_toArray, List.set_cons_zero, List.set_cons_succ, i64_w, i32_w]
                              rfl
                            refine done_ (done_of HT_.out (by kernel_rfl)) ?_
                            have p279 : 0 ≤ (a1 : Int) := of_decide_eq_true (by first | (with_reducible assumption) | assumption)
                            have q279 : a1 < (t267.length : Int) := of_decide_eq_true (by first | (with_reducible assumption) | assumption)
                            obtain ⟨ad279, A279_2, c279_2, e279, hx279_0, hx279_1, hx279_2, hl279_2, hi279_2⟩ := at_T24 (Kd.N_reads' HO_9.out).2.2 a1 p279 q279
                            obtain rfl : ad277 = ad279 := (by injection e279)
                            obtain ⟨ce279, hce279, hMe279, hcc279⟩ := Kd.N_get HO_9.out z24 a1 p279 (by first | exact q279 | exact of_decide_eq_true (by first | (with_reducible assumption) | assumption) | (have e_ := (Kd.N_reads' HO_9.out).1; omega))
                            obtain ⟨ua279_2, uc279_2, rfl, ul279_2, ge279_2⟩ := k24_openF hMe279
                            have hv279_2 := hcc279 2 _ rfl
                            rw [add_field _ _ 2 (by omega)] at hv279_2
                            replace hv279_2 := Option.some.inj (hv279_2.symm.trans hx279_2)
                            injection hv279_2 with hva_ hvn_ hvc_
                            rw [hva_] at ge279_2
                            rw [hvc_] at ul279_2
                            have HL279_2 := Aside0.mk (show Kd.V k24 24 _ w.heap.size _ _ ((rd_T24 t267 a1).f2) from Kd.V_mk ul279_2 ge279_2)
                            clear hva_ hvn_ hvc_ ge279_2 ul279_2
                            clear hcc279 hce279
                            have HR279_2 := Aside0.mk hi279_2
                            have HC279_2 := Aside0.mk hl279_2
                            clear hi279_2 hl279_2
                            replace p279 := eq_true p279
                            replace q279 := eq_true q279
                            try go_wp2_with (first | ((with_reducible refine gate_callee (f := 25) rfl ?_); refine goesL_ (some 69) rfl rfl Try.func25 (by kernel_rfl) rfl #[.slice A0 l0.length c0, .agg #[.int .i64 ((rd_T24 t267 a1).f0), .int .i64 ((rd_T24 t267 a1).f1), .slice A277_2 ((rd_T24 t267 a1).f2).length c277_2]] rfl (by (try simp only [List.map_toArray, List.map_cons, List.map_nil]); first | done | rfl | (simp only [List.length_drop, List.length_take]; rfl)) ?_; (with_reducible refine (pelicanref06_In.calls kj27 _ _ l0 ((rd_T24 t267 a1).f0) ((rd_T24 t267 a1).f1) _ _ ((rd_T24 t267 a1).f2) t280 _ ?side1 ?side2 ?side3 ?side4 A36.out).mono ?_); (case side1 => repeat (first | exact (Kd.C_below HR0.out HB.out) | (with_reducible refine Kd.C_alloc ?_ _) | (with_reducible refine Kd.C_drewN ?_ _) | (with_reducible refine Kd.C_drew ?_))); (case side2 => exact HC0.out); (case side3 => repeat (first | exact (by repeat (first | (with_reducible exact HR277_2.out) | (with_reducible refine Kd.C_alloc ?_ _) | (with_reducible refine Kd.C_drewN ?_ _) | (with_reducible refine Kd.C_drew ?_) | exact HR277_2.out)) | (with_reducible refine Kd.C_alloc ?_ _) | (with_reducible refine Kd.C_drewN ?_ _) | (with_reducible refine Kd.C_drew ?_))); (case side4 => exact HC277_2.out); rintro e w41 ⟨rfl, hb⟩; refine ⟨_, rfl, ?_⟩; have n0_ := Aside0.mk (Kd.N_below (by (with_reducible repeat (first | apply Kd.N_alloc | apply Kd.N_drewN | apply Kd.N_drew)); exact HO_9.out) hb); have n1_ := Aside0.mk (Kd.V_below (by (with_reducible repeat (first | apply Kd.V_alloc | apply Kd.V_drewN | apply Kd.V_drew)); exact HO276.out) hb); have n2_ := Aside0.mk (Kd.V_below (by (with_reducible repeat (first | apply Kd.V_alloc | apply Kd.V_drewN | apply Kd.V_drew)); exact HL277_2.out) hb); have n3_ := Aside0.mk (Kd.V_below (by (with_reducible repeat (first | apply Kd.V_alloc | apply Kd.V_drewN | apply Kd.V_drew)); exact HL279_2.out) hb); have n4_ := Aside0.mk (Kd.C_below (by repeat (first | (with_reducible exact HR277_2.out) | (with_reducible refine Kd.C_alloc ?_ _) | (with_reducible refine Kd.C_drewN ?_ _) | (with_reducible refine Kd.C_drew ?_) | exact HR277_2.out)) hb); have n5_ := Aside0.mk (Kd.C_below (by repeat (first | (with_reducible exact HR279_2.out) | (with_reducible refine Kd.C_alloc ?_ _) | (with_reducible refine Kd.C_drewN ?_ _) | (with_reducible refine Kd.C_drew ?_) | exact HR279_2.out)) hb); have n6_ := Aside0.mk (below_step (by repeat (first | (with_reducible first | exact HB.out | apply below_alloc | apply pw_below_drewN | apply below_drew1) | exact HB.out)) hb); clear HO_9; clear HO276; clear HL277_2; clear HL279_2; clear HR277_2; clear HR279_2; clear HB; have HO_9 := n0_; have HO276 := n1_; have HL277_2 := n2_; have HL279_2 := n3_; have HR277_2 := n4_; have HR279_2 := n5_; have HB := n6_; clear n0_ n1_ n2_ n3_ n4_ n5_ n6_; (try clear hb); (try clear hb2); (try clear hk); (try clear hi)))
                            go_loopg [12, 13] kj27 (fun kq v12 v13 w' => ∃ (x12_5 : Bool) (x13_5 : Int), v12 = .bool x12_5 ∧ v13 = .int .i64 x13_5 ∧ Aside0 (pelicanlaw06_KnowParts.l0 kq a1 t267 t278 x12_5 x13_5 = some r) ∧ Aside0 (kq ≤ kj27) ∧ Aside0 (Kd.N k24 24 w' w.heap.size (fun _ => True) (.slice (some ad277) t267.length co39) t267) ∧ Aside0 (Kd.C k24 w' A277_2 ((rd_T24 t267 a1).f2).length ((rd_T24 t267 a1).f2)) ∧ Aside0 (Kd.C k24 w' A279_2 ((rd_T24 t267 a1).f2).length ((rd_T24 t267 a1).f2)) ∧ Aside0 (Below w.heap.size w w'))
                            case atStart => exact ⟨(t280), (0), (by first | rfl | (simp; done) | (simp [*]; done)), (by first | rfl | (simp; done) | (simp [*]; done)), H', ⟨Nat.le_refl _⟩, ⟨by (with_reducible repeat (first | apply Kd.N_alloc | apply Kd.N_drewN | apply Kd.N_drew)); exact HO_9.out⟩, ⟨by repeat (first | (with_reducible exact HR277_2.out) | (with_reducible refine Kd.C_alloc ?_ _) | (with_reducible refine Kd.C_drewN ?_ _) | (with_reducible refine Kd.C_drew ?_) | exact HR277_2.out)⟩, ⟨by repeat (first | (with_reducible exact HR279_2.out) | (with_reducible refine Kd.C_alloc ?_ _) | (with_reducible refine Kd.C_drewN ?_ _) | (with_reducible refine Kd.C_drew ?_) | exact HR279_2.out)⟩, ⟨by repeat (first | (with_reducible first | exact HB.out | apply below_alloc | apply pw_below_drewN | apply below_drew1) | exact HB.out)⟩⟩
                            case round =>
                              clear H'
                              try clear c1
                              try clear c2
                              try clear p2
                              try clear q2
                              try clear hx2
                              try clear c3
                              try clear q3
                              try clear c9
                              try clear c10
                              try clear c11
                              try clear c13
                              try clear c14
                              try clear c17
                              try clear c17b0
                              try clear c19
                              try clear c20
                              try clear c20b0
                              try clear c21
                              try clear c21b0
                              try clear c23
                              try clear c25
                              try clear c27
                              try clear p27
                              try clear q27
                              try clear hx27
                              try clear c29
                              try clear c29b0
                              try clear c31
                              try clear c32
                              try clear c32b0
                              try clear c32b1
                              try clear c33
                              try clear c33b0
                              try clear c33b1
                              try clear c34
                              try clear c34b0
                              try clear q38
                              try clear hx270_0
                              try clear hx270_1
                              try clear hx270_2
                              try clear hx277_0
                              try clear hx277_1
                              try clear hx277_2
                              try clear hx279_0
                              try clear hx279_1
                              try clear hx279_2
                              try clear p2
                              try clear p27
                              try clear p270
                              try clear p277
                              try clear p279
                              try clear q2
                              try clear q27
                              try clear q270
                              try clear q277
                              try clear q279
                              try clear q38
                              obtain ⟨x12_5, x13_5, rfl, rfl, HA, HK5, HO_9, HR277_2, HR279_2, HB⟩ := hrel
                              cases gk with
                              | zero => exact absurd HA.out (by simp [pelicanlaw06_KnowParts.l0])
                              | succ k5 =>
                                have H := HA.out
                                clear HA
                                simp only [pelicanlaw06_KnowParts.l0] at H
                                by_cases c42 : x13_5 < a1
                                · rw [if_pos c42] at H
                                  have c42b0 : decide (x13_5 < a1) = true := decide_eq_true c42
                                  clear c42
                                  by_cases c43 : 0 ≤ x13_5
                                  · rw [if_pos c43] at H
                                    have c43b0 : decide (0 ≤ x13_5) = true := decide_eq_true c43
                                    clear c43
                                    by_cases c44 : x13_5 < (t267.length : Int)
                                    · rw [if_pos c44] at H
                                      have c44b0 : decide (x13_5 < (t267.length : Int)) = true := decide_eq_true c44
                                      clear c44
                                      by_cases c45 : 0 ≤ a1
                                      · rw [if_pos c45] at H
                                        have c45b0 : decide (0 ≤ a1) = true := decide_eq_true c45
                                        clear c45
                                        by_cases c46 : a1 < (t267.length : Int)
                                        · rw [if_pos c46] at H
                                          have c46b0 : decide (a1 < (t267.length : Int)) = true := decide_eq_true c46
                                          clear c46
                                          replace H := Option.bind_eq_some_iff.mp H
                                          obtain ⟨t283, A470, H⟩ := H
                                          replace H : (if x12_5 = true then (pelicanlaw06_KnowParts.l0 k5 a1 t267 t278 true (wrap64 (x13_5 + 1))) else (if ((rd_T24 t267 x13_5).f0) = 2 then (pelicanlaw06_KnowParts.l0 k5 a1 t267 t278 t283 (wrap64 (x13_5 + 1))) else (pelicanlaw06_KnowParts.l0 k5 a1 t267 t278 false (wrap64 (x13_5 + 1))))) = some r := H
                                          have A47 := Aside0.mk A470
                                          clear A470
                                          by_cases c48 : x12_5 = true
                                          · subst c48
                                            have H1 : (pelicanlaw06_KnowParts.l0 k5 a1 t267 t278 true (wrap64 (x13_5 + 1))) = some r := by rw [if_pos rfl] at H; exact H
                                            clear H
                                            have H := H1
                                            clear H1
                                            have H' := Aside0.mk H
                                            clear H
                                            try go_wp2
                                            have n0_ := Aside0.mk (Kd.N_drew HO_9.out)
                                            have n1_ := Aside0.mk (Kd.C_drew HR277_2.out)
                                            have n2_ := Aside0.mk (Kd.C_drew HR279_2.out)
                                            have n3_ := Aside0.mk (below_drew1 HB.out)
                                            clear HO_9
                                            clear HR277_2
                                            clear HR279_2
                                            clear HB
                                            have HO_9 := n0_
                                            have HR277_2 := n1_
                                            have HR279_2 := n2_
                                            have HB := n3_
                                            clear n0_ n1_ n2_ n3_
                                            have p281 : 0 ≤ (x13_5 : Int) := of_decide_eq_true (by first | (with_reducible assumption) | assumption)
                                            have q281 : x13_5 < (t267.length : Int) := of_decide_eq_true (by first | (with_reducible assumption) | assumption)
                                            obtain ⟨ad281, A281_2, c281_2, e281, hx281_0, hx281_1, hx281_2, hl281_2, hi281_2⟩ := at_T24 (Kd.N_reads' HO_9.out).2.2 x13_5 p281 q281
                                            obtain rfl : ad277 = ad281 := (by injection e281)
                                            obtain ⟨ce281, hce281, hMe281, hcc281⟩ := Kd.N_get HO_9.out z24 x13_5 p281 (by first | exact q281 | exact of_decide_eq_true (by first | (with_reducible assumption) | assumption) | (have e_ := (Kd.N_reads' HO_9.out).1; omega))
                                            obtain ⟨ua281_2, uc281_2, rfl, ul281_2, ge281_2⟩ := k24_openF hMe281
                                            have hv281_2 := hcc281 2 _ rfl
                                            rw [add_field _ _ 2 (by omega)] at hv281_2
                                            replace hv281_2 := Option.some.inj (hv281_2.symm.trans hx281_2)
                                            injection hv281_2 with hva_ hvn_ hvc_
                                            rw [hva_] at ge281_2
                                            rw [hvc_] at ul281_2
                                            have HL281_2 := Aside0.mk (show Kd.V k24 24 _ w.heap.size _ _ ((rd_T24 t267 x13_5).f2) from Kd.V_mk ul281_2 ge281_2)
                                            clear hva_ hvn_ hvc_ ge281_2 ul281_2
                                            clear hcc281 hce281
                                            have HR281_2 := Aside0.mk hi281_2
                                            have HC281_2 := Aside0.mk hl281_2
                                            clear hi281_2 hl281_2
                                            replace p281 := eq_true p281
                                            replace q281 := eq_true q281
                                            have p282 : 0 ≤ (a1 : Int) := of_decide_eq_true (by first | (with_reducible assumption) | assumption)
                                            have q282 : a1 < (t267.length : Int) := of_decide_eq_true (by first | (with_reducible assumption) | assumption)
                                            obtain ⟨ad282, A282_2, c282_2, e282, hx282_0, hx282_1, hx282_2, hl282_2, hi282_2⟩ := at_T24 (Kd.N_reads' HO_9.out).2.2 a1 p282 q282
                                            obtain rfl : ad277 = ad282 := (by injection e282)
                                            obtain ⟨ce282, hce282, hMe282, hcc282⟩ := Kd.N_get HO_9.out z24 a1 p282 (by first | exact q282 | exact of_decide_eq_true (by first | (with_reducible assumption) | assumption) | (have e_ := (Kd.N_reads' HO_9.out).1; omega))
                                            obtain ⟨ua282_2, uc282_2, rfl, ul282_2, ge282_2⟩ := k24_openF hMe282
                                            have hv282_2 := hcc282 2 _ rfl
                                            rw [add_field _ _ 2 (by omega)] at hv282_2
                                            replace hv282_2 := Option.some.inj (hv282_2.symm.trans hx282_2)
                                            injection hv282_2 with hva_ hvn_ hvc_
                                            rw [hva_] at ge282_2
                                            rw [hvc_] at ul282_2
                                            have HL282_2 := Aside0.mk (show Kd.V k24 24 _ w.heap.size _ _ ((rd_T24 t267 a1).f2) from Kd.V_mk ul282_2 ge282_2)
                                            clear hva_ hvn_ hvc_ ge282_2 ul282_2
                                            clear hcc282 hce282
                                            have HR282_2 := Aside0.mk hi282_2
                                            have HC282_2 := Aside0.mk hl282_2
                                            clear hi282_2 hl282_2
                                            replace p282 := eq_true p282
                                            replace q282 := eq_true q282
                                            refine start_ (n := 11) (S := fun w' => w'.cell? (ad277.add ((x13_5).toNat * 3)) = some (.int .i64 ((rd_T24 t267 x13_5).f0)) ∧ w'.cell? ⟨(ad277.add ((x13_5).toNat * 3)).block, (ad277.add ((x13_5).toNat * 3)).off + 1, none⟩ = some (.int .i64 ((rd_T24 t267 x13_5).f1)) ∧ w'.cell? ⟨(ad277.add ((x13_5).toNat * 3)).block, (ad277.add ((x13_5).toNat * 3)).off + 2, none⟩ = some (.slice A281_2 ((rd_T24 t267 x13_5).f2).length c281_2) ∧ w'.cell? (ad277.add ((a1).toNat * 3)) = some (.int .i64 ((rd_T24 t267 a1).f0)) ∧ w'.cell? ⟨(ad277.add ((a1).toNat * 3)).block, (ad277.add ((a1).toNat * 3)).off + 1, none⟩ = some (.int .i64 ((rd_T24 t267 a1).f1)) ∧ w'.cell? ⟨(ad277.add ((a1).toNat * 3)).block, (ad277.add ((a1).toNat * 3)).off + 2, none⟩ = some (.slice A282_2 ((rd_T24 t267 a1).f2).length c282_2)) (ds := []) #[false, false, false, false, false, false, false, false, false, false, false] (by kernel_rfl) rfl rfl ⟨hx281_0, hx281_1, hx281_2, hx282_0, hx282_1, hx282_2⟩ (fun hHeld => ?_); refine with_tabW pelicanlaw06_KnowParts.tab17 pelicanlaw06_KnowParts.bits17 (fun HT_ HW_ => ?_)
                                            generalize wr.drew = w49 at HO_9 HR277_2 HR279_2 HB HL281_2 HL282_2 HR281_2 HR282_2 hx281_0 hx281_1 hx281_2 hx282_0 hx282_1 hx282_2 hHeld ⊢
                                            refine pure_ (i := 0) (N := some 75) (v := ?_) (a' := ?_) #[true, false, false, false, false, false, false, false, false, false, false] rfl rfl (any_of HT_.out (by kernel_rfl)) (fun _ _ _ h => h) (Or.inl ⟨by rfl, ?_⟩) ?_ ?_
                                            rotate_left
                                            · intro w'
                                              go_simp
                                              with_reducible rfl
                                            rotate_left
                                            · simp only [Act.put, List.setIfInBounds_toArray, List.set_cons_zero, List.set_cons_succ, i64_w, i32_w]
                                              rfl
                                            refine pure_ (i := 1) (N := some 76) (v := ?_) (a' := ?_) #[true, true, false, false, false, false, false, false, false, false, false] rfl rfl (any_of HT_.out (by kernel_rfl)) (fun _ _ _ h => h) (Or.inl ⟨by rfl, ?_⟩) ?_ ?_
                                            rotate_left
                                            · intro w'
                                              go_simp
                                              with_reducible rfl
                                            rotate_left
                                            · simp only [Act.put, List.setIfInBounds_toArray, List.set_cons_zero, List.set_cons_succ, i64_w, i32_w]
                                              rfl
                                            refine pure_ (i := 2) (N := some 77) (v := ?_) (a' := ?_) #[true, true, true, false, false, false, false, false, false, false, false] rfl rfl (any_of HT_.out (by kernel_rfl)) (fun _ _ _ h => h) (Or.inl ⟨by rfl, ?_⟩) ?_ ?_
                                            rotate_left
                                            · intro w'
                                              go_simp
                                              with_reducible rfl
                                            rotate_left
                                            · simp only [Act.put, List.setIfInBounds_toArray, List.set_cons_zero, List.set_cons_succ, i64_w, i32_w]
                                              rfl
                                            refine pure_ (i := 3) (N := some 78) (v := ?_) (a' := ?_) #[true, true, true, true, false, false, false, false, false, false, false] rfl rfl (any_of HT_.out (by kernel_rfl)) (fun _ _ _ h => h) (Or.inl ⟨by rfl, ?_⟩) ?_ ?_
                                            rotate_left
                                            · intro w'
                                              go_simp
                                              with_reducible rfl
                                            rotate_left
                                            · simp only [Act.put, List.setIfInBounds_toArray, List.set_cons_zero, List.set_cons_succ, i64_w, i32_w]
                                              rfl
                                            refine pure_ (i := 5) (N := some 80) (v := ?_) (a' := ?_) #[true, true, true, true, false, true, false, false, false, false, false] rfl rfl (any_of HT_.out (by kernel_rfl)) (fun _ _ _ h => h) (Or.inl ⟨by rfl, ?_⟩) ?_ ?_
                                            rotate_left
                                            · intro w'
                                              go_simp
                                              with_reducible rfl
                                            rotate_left
                                            · simp only [Act.put, List.setIfInBounds_toArray, List.set_cons_zero, List.set_cons_succ, i64_w, i32_w]
                                              rfl
                                            refine pure_ (i := 6) (N := some 81) (v := ?_) (a' := ?_) #[true, true, true, true, false, true, true, false, false, false, false] rfl rfl (any_of HT_.out (by kernel_rfl)) (fun _ _ _ h => h) (Or.inl ⟨by rfl, ?_⟩) ?_ ?_
                                            rotate_left
                                            · intro w'
                                              go_simp
                                              with_reducible rfl
                                            rotate_left
                                            · simp only [Act.put, List.setIfInBounds_toArray, List.set_cons_zero, List.set_cons_succ, i64_w, i32_w]
                                              rfl
                                            refine pure_ (i := 7) (N := some 82) (v := ?_) (a' := ?_) #[true, true, true, true, false, true, true, true, false, false, false] rfl rfl (any_of HT_.out (by kernel_rfl)) (fun _ _ _ h => h) (Or.inl ⟨by rfl, ?_⟩) ?_ ?_
                                            rotate_left
                                            · intro w'
                                              go_simp
                                              with_reducible rfl
                                            rotate_left
                                            · simp only [Act.put, List.setIfInBounds_toArray, List.set_cons_zero, List.set_cons_succ, i64_w, i32_w]
                                              rfl
                                            refine take_ (i := 4) (N := some 79) (v := ?_) (a' := ?_) #[true, true, true, true, true, true, true, true, false, false, false] rfl rfl (take_ofW HT_.out HW_.out (by kernel_rfl)) (fun _ _ _ h => h) (Or.inl ⟨by rfl, ?_⟩) hHeld ?_ ?_
                                            rotate_left
                                            · rintro w' ⟨s0, s1, s2, s3, s4, s5⟩
                                              go_simp
                                              with_reducible rfl
                                            rotate_left
                                            · simp only [Act.put, List.setIfInBounds_toArray, List.set_cons_zero, List.set_cons_succ, i64_w, i32_w]
                                              rfl
                                            refine take_ (i := 8) (N := some 83) (v := ?_) (a' := ?_) #[true, true, true, true, true, true, true, true, true, false, false] rfl rfl (take_ofW HT_.out HW_.out (by kernel_rfl)) (fun _ _ _ h => h) (Or.inl ⟨by rfl, ?_⟩) hHeld ?_ ?_
                                            rotate_left
                                            · rintro w' ⟨s0, s1, s2, s3, s4, s5⟩
                                              go_simp
                                              with_reducible rfl
                                            rotate_left
                                            · simp only [Act.put, List.setIfInBounds_toArray, List.set_cons_zero, List.set_cons_succ, i64_w, i32_w]
                                              rfl
                                            refine one_ (i := 9) (N := some 84) #[true, true, true, true, true, true, true, true, true, true, false] rfl rfl (one_of HT_.out (by kernel_rfl)) (by decide) (fun K hK => ?_)
                                            refine goes_ Try.func25 (by kernel_rfl) rfl #[.slice A281_2 ((rd_T24 t267 x13_5).f2).length c281_2, .agg #[.int .i64 ((rd_T24 t267 a1).f0), .int .i64 ((rd_T24 t267 a1).f1), .slice A282_2 ((rd_T24 t267 a1).f2).length c282_2]] (by rfl) rfl rfl (by (try simp only [List.map_toArray, List.map_cons, List.map_nil]); first | done | rfl | (simp only [List.length_drop, List.length_take]; rfl)) ?_
                                            with_reducible refine (pelicanref06_In.calls k5 _ _ ((rd_T24 t267 x13_5).f2) ((rd_T24 t267 a1).f0) ((rd_T24 t267 a1).f1) _ _ ((rd_T24 t267 a1).f2) t283 _ ?side1 ?side2 ?side3 ?side4 A47.out).mono ?_
                                            (case side1 => repeat (first | exact (by repeat (first | (with_reducible exact HR281_2.out) | (with_reducible refine Kd.C_alloc ?_ _) | (with_reducible refine Kd.C_drewN ?_ _) | (with_reducible refine Kd.C_drew ?_) | exact HR281_2.out)) | (with_reducible refine Kd.C_alloc ?_ _) | (with_reducible refine Kd.C_drewN ?_ _) | (with_reducible refine Kd.C_drew ?_)))
                                            (case side2 => exact HC281_2.out)
                                            (case side3 => repeat (first | exact (by repeat (first | (with_reducible exact HR282_2.out) | (with_reducible refine Kd.C_alloc ?_ _) | (with_reducible refine Kd.C_drewN ?_ _) | (with_reducible refine Kd.C_drew ?_) | exact HR282_2.out)) | (with_reducible refine Kd.C_alloc ?_ _) | (with_reducible refine Kd.C_drewN ?_ _) | (with_reducible refine Kd.C_drew ?_)))
                                            (case side4 => exact HC282_2.out)
                                            rintro e w50 ⟨rfl, hb⟩
                                            have HS0_ := (hb.cell (World.block_lt_of_cell? _ _ (hHeld.1))).trans (hHeld.1)
                                            have HS1_ := (hb.cell (World.block_lt_of_cell? _ _ (hHeld.2.1))).trans (hHeld.2.1)
                                            have HS2_ := (hb.cell (World.block_lt_of_cell? _ _ (hHeld.2.2.1))).trans (hHeld.2.2.1)
                                            have HS3_ := (hb.cell (World.block_lt_of_cell? _ _ (hHeld.2.2.2.1))).trans (hHeld.2.2.2.1)
                                            have HS4_ := (hb.cell (World.block_lt_of_cell? _ _ (hHeld.2.2.2.2.1))).trans (hHeld.2.2.2.2.1)
                                            have HS5_ := (hb.cell (World.block_lt_of_cell? _ _ (hHeld.2.2.2.2.2))).trans (hHeld.2.2.2.2.2)
                                            refine ⟨_, rfl, ?_⟩
                                            have n0_ := Aside0.mk (Kd.N_below (by (with_reducible repeat (first | apply Kd.N_alloc | apply Kd.N_drewN | apply Kd.N_drew)); exact HO_9.out) hb)
                                            have n1_ := Aside0.mk (Kd.V_below (by (with_reducible repeat (first | apply Kd.V_alloc | apply Kd.V_drewN | apply Kd.V_drew)); exact HL281_2.out) hb)
                                            have n2_ := Aside0.mk (Kd.V_below (by (with_reducible repeat (first | apply Kd.V_alloc | apply Kd.V_drewN | apply Kd.V_drew)); exact HL282_2.out) hb)
                                            have n3_ := Aside0.mk (Kd.C_below (by repeat (first | (with_reducible exact HR277_2.out) | (with_reducible refine Kd.C_alloc ?_ _) | (with_reducible refine Kd.C_drewN ?_ _) | (with_reducible refine Kd.C_drew ?_) | exact HR277_2.out)) hb)
                                            have n4_ := Aside0.mk (Kd.C_below (by repeat (first | (with_reducible exact HR279_2.out) | (with_reducible refine Kd.C_alloc ?_ _) | (with_reducible refine Kd.C_drewN ?_ _) | (with_reducible refine Kd.C_drew ?_) | exact HR279_2.out)) hb)
                                            have n5_ := Aside0.mk (Kd.C_below (by repeat (first | (with_reducible exact HR281_2.out) | (with_reducible refine Kd.C_alloc ?_ _) | (with_reducible refine Kd.C_drewN ?_ _) | (with_reducible refine Kd.C_drew ?_) | exact HR281_2.out)) hb)
                                            have n6_ := Aside0.mk (Kd.C_below (by repeat (first | (with_reducible exact HR282_2.out) | (with_reducible refine Kd.C_alloc ?_ _) | (with_reducible refine Kd.C_drewN ?_ _) | (with_reducible refine Kd.C_drew ?_) | exact HR282_2.out)) hb)
                                            have n7_ := Aside0.mk (below_step (by repeat (first | (with_reducible first | exact HB.out | apply below_alloc | apply pw_below_drewN | apply below_drew1) | exact HB.out)) hb)
                                            clear HO_9
                                            clear HL281_2
                                            clear HL282_2
                                            clear HR277_2
                                            clear HR279_2
                                            clear HR281_2
                                            clear HR282_2
                                            clear HB
                                            have HO_9 := n0_
                                            have HL281_2 := n1_
                                            have HL282_2 := n2_
                                            have HR277_2 := n3_
                                            have HR279_2 := n4_
                                            have HR281_2 := n5_
                                            have HR282_2 := n6_
                                            have HB := n7_
                                            clear n0_ n1_ n2_ n3_ n4_ n5_ n6_ n7_
                                            (try clear hb)
                                            (try clear hb2)
                                            (try clear hk)
                                            (try clear hi)
                                            refine hK.out _ _ ⟨HS0_, HS1_, HS2_, HS3_, HS4_, HS5_⟩ (fun hHeld => ?_)
                                            clear hK K
                                            refine norm_ (a' := ?_) ?_ ?_
                                            rotate_left
                                            · show Act.put _ (some 84) _ = _
                                              simp only [Act.put, List.setIfInBounds_toArray, List.set_cons_zero, List.set_cons_succ, i64_w, i32_w]
                                              rfl
                                            refine pure_ (i := 10) (N := some 14) (v := ?_) (a' := ?_) #[true, true, true, true, true, true, true, true, true, true, true] rfl rfl (any_of HT_.out (by kernel_rfl)) (fun _ _ _ h => h) (Or.inl ⟨by rfl, ?_⟩) ?_ ?_
                                            rotate_left
                                            · intro w'
                                              go_simp
                                              with_reducible rfl
                                            rotate_left
                                            · simp only [Act.put, List.setIfInBounds_toArray, List.set_cons_zero, List.set_cons_succ, i64_w, i32_w]
                                              rfl
                                            refine done_ (done_of HT_.out (by kernel_rfl)) ?_
                                            try go_wp2
                                            go_roundg k5
                                            case measure => have := HJ5.out; have := HJ14.out; have := HJ17.out; have := HJ27.out; have := HK5.out; omega
                                            case rel => exact ⟨(true), (wrap64 (x13_5 + 1)), (by first | rfl | (simp; done) | (simp [*]; done)), (by first | rfl | (simp; done) | (simp [*]; done)), H', ⟨by have := HJ5.out; have := HJ14.out; have := HJ17.out; have := HJ27.out; have := HK5.out; omega⟩, ⟨by (with_reducible repeat (first | apply Kd.N_alloc | apply Kd.N_drewN | apply Kd.N_drew)); exact HO_9.out⟩, ⟨by repeat (first | (with_reducible exact HR277_2.out) | (with_reducible refine Kd.C_alloc ?_ _) | (with_reducible refine Kd.C_drewN ?_ _) | (with_reducible refine Kd.C_drew ?_) | exact HR277_2.out)⟩, ⟨by repeat (first | (with_reducible exact HR279_2.out) | (with_reducible refine Kd.C_alloc ?_ _) | (with_reducible refine Kd.C_drewN ?_ _) | (with_reducible refine Kd.C_drew ?_) | exact HR279_2.out)⟩, ⟨by repeat (first | (with_reducible first | exact HB.out | apply below_alloc | apply pw_below_drewN | apply below_drew1) | exact HB.out)⟩⟩
                                          · replace c48 := Bool.eq_false_iff.mpr c48
                                            subst c48
                                            have H1 : (if ((rd_T24 t267 x13_5).f0) = 2 then (pelicanlaw06_KnowParts.l0 k5 a1 t267 t278 t283 (wrap64 (x13_5 + 1))) else (pelicanlaw06_KnowParts.l0 k5 a1 t267 t278 false (wrap64 (x13_5 + 1)))) = some r := by rw [if_neg (show ¬ (false = true) by decide)] at H; exact H
                                            clear H
                                            have H := H1
                                            clear H1
                                            by_cases c51 : ((rd_T24 t267 x13_5).f0) = 2
                                            · rw [if_pos c51] at H
                                              have c51b0 : (((rd_T24 t267 x13_5).f0) == 2) = true := beq_iff_eq.mpr c51
                                              have c51b1 : (((rd_T24 t267 x13_5).f0) != 2) = false := bne_eq_false_iff_eq.mpr c51
                                              clear c51
                                              have H' := Aside0.mk H
                                              clear H
                                              try go_wp2
                                              have n0_ := Aside0.mk (Kd.N_drew HO_9.out)
                                              have n1_ := Aside0.mk (Kd.C_drew HR277_2.out)
                                              have n2_ := Aside0.mk (Kd.C_drew HR279_2.out)
                                              have n3_ := Aside0.mk (below_drew1 HB.out)
                                              clear HO_9
                                              clear HR277_2
                                              clear HR279_2
                                              clear HB
                                              have HO_9 := n0_
                                              have HR277_2 := n1_
                                              have HR279_2 := n2_
                                              have HB := n3_
                                              clear n0_ n1_ n2_ n3_
                                              have p281 : 0 ≤ (x13_5 : Int) := of_decide_eq_true (by first | (with_reducible assumption) | assumption)
                                              have q281 : x13_5 < (t267.length : Int) := of_decide_eq_true (by first | (with_reducible assumption) | assumption)
                                              obtain ⟨ad281, A281_2, c281_2, e281, hx281_0, hx281_1, hx281_2, hl281_2, hi281_2⟩ := at_T24 (Kd.N_reads' HO_9.out).2.2 x13_5 p281 q281
                                              obtain rfl : ad277 = ad281 := (by injection e281)
                                              obtain ⟨ce281, hce281, hMe281, hcc281⟩ := Kd.N_get HO_9.out z24 x13_5 p281 (by first | exact q281 | exact of_decide_eq_true (by first | (with_reducible assumption) | assumption) | (have e_ := (Kd.N_reads' HO_9.out).1; omega))
                                              obtain ⟨ua281_2, uc281_2, rfl, ul281_2, ge281_2⟩ := k24_openF hMe281
                                              have hv281_2 := hcc281 2 _ rfl
                                              rw [add_field _ _ 2 (by omega)] at hv281_2
                                              replace hv281_2 := Option.some.inj (hv281_2.symm.trans hx281_2)
                                              injection hv281_2 with hva_ hvn_ hvc_
                                              rw [hva_] at ge281_2
                                              rw [hvc_] at ul281_2
                                              have HL281_2 := Aside0.mk (show Kd.V k24 24 _ w.heap.size _ _ ((rd_T24 t267 x13_5).f2) from Kd.V_mk ul281_2 ge281_2)
                                              clear hva_ hvn_ hvc_ ge281_2 ul281_2
                                              clear hcc281 hce281
                                              have HR281_2 := Aside0.mk hi281_2
                                              have HC281_2 := Aside0.mk hl281_2
                                              clear hi281_2 hl281_2
                                              replace p281 := eq_true p281
                                              replace q281 := eq_true q281
                                              have p282 : 0 ≤ (a1 : Int) := of_decide_eq_true (by first | (with_reducible assumption) | assumption)
                                              have q282 : a1 < (t267.length : Int) := of_decide_eq_true (by first | (with_reducible assumption) | assumption)
                                              obtain ⟨ad282, A282_2, c282_2, e282, hx282_0, hx282_1, hx282_2, hl282_2, hi282_2⟩ := at_T24 (Kd.N_reads' HO_9.out).2.2 a1 p282 q282
                                              obtain rfl : ad277 = ad282 := (by injection e282)
                                              obtain ⟨ce282, hce282, hMe282, hcc282⟩ := Kd.N_get HO_9.out z24 a1 p282 (by first | exact q282 | exact of_decide_eq_true (by first | (with_reducible assumption) | assumption) | (have e_ := (Kd.N_reads' HO_9.out).1; omega))
                                              obtain ⟨ua282_2, uc282_2, rfl, ul282_2, ge282_2⟩ := k24_openF hMe282
                                              have hv282_2 := hcc282 2 _ rfl
                                              rw [add_field _ _ 2 (by omega)] at hv282_2
                                              replace hv282_2 := Option.some.inj (hv282_2.symm.trans hx282_2)
                                              injection hv282_2 with hva_ hvn_ hvc_
                                              rw [hva_] at ge282_2
                                              rw [hvc_] at ul282_2
                                              have HL282_2 := Aside0.mk (show Kd.V k24 24 _ w.heap.size _ _ ((rd_T24 t267 a1).f2) from Kd.V_mk ul282_2 ge282_2)
                                              clear hva_ hvn_ hvc_ ge282_2 ul282_2
                                              clear hcc282 hce282
                                              have HR282_2 := Aside0.mk hi282_2
                                              have HC282_2 := Aside0.mk hl282_2
                                              clear hi282_2 hl282_2
                                              replace p282 := eq_true p282
                                              replace q282 := eq_true q282
                                              refine start_ (n := 11) (S := fun w' => w'.cell? (ad277.add ((x13_5).toNat * 3)) = some (.int .i64 ((rd_T24 t267 x13_5).f0)) ∧ w'.cell? ⟨(ad277.add ((x13_5).toNat * 3)).block, (ad277.add ((x13_5).toNat * 3)).off + 1, none⟩ = some (.int .i64 ((rd_T24 t267 x13_5).f1)) ∧ w'.cell? ⟨(ad277.add ((x13_5).toNat * 3)).block, (ad277.add ((x13_5).toNat * 3)).off + 2, none⟩ = some (.slice A281_2 ((rd_T24 t267 x13_5).f2).length c281_2) ∧ w'.cell? (ad277.add ((a1).toNat * 3)) = some (.int .i64 ((rd_T24 t267 a1).f0)) ∧ w'.cell? ⟨(ad277.add ((a1).toNat * 3)).block, (ad277.add ((a1).toNat * 3)).off + 1, none⟩ = some (.int .i64 ((rd_T24 t267 a1).f1)) ∧ w'.cell? ⟨(ad277.add ((a1).toNat * 3)).block, (ad277.add ((a1).toNat * 3)).off + 2, none⟩ = some (.slice A282_2 ((rd_T24 t267 a1).f2).length c282_2)) (ds := []) #[false, false, false, false, false, false, false, false, false, false, false] (by kernel_rfl) rfl rfl ⟨hx281_0, hx281_1, hx281_2, hx282_0, hx282_1, hx282_2⟩ (fun hHeld => ?_); refine with_tabW pelicanlaw06_KnowParts.tab17 pelicanlaw06_KnowParts.bits17 (fun HT_ HW_ => ?_)
                                              generalize wr.drew = w52 at HO_9 HR277_2 HR279_2 HB HL281_2 HL282_2 HR281_2 HR282_2 hx281_0 hx281_1 hx281_2 hx282_0 hx282_1 hx282_2 hHeld ⊢
                                              refine pure_ (i := 0) (N := some 75) (v := ?_) (a' := ?_) #[true, false, false, false, false, false, false, false, false, false, false] rfl rfl (any_of HT_.out (by kernel_rfl)) (fun _ _ _ h => h) (Or.inl ⟨by rfl, ?_⟩) ?_ ?_
                                              rotate_left
                                              · intro w'
                                                go_simp
                                                with_reducible rfl
                                              rotate_left
                                              · simp only [Act.put, List.setIfInBounds_toArray, List.set_cons_zero, List.set_cons_succ, i64_w, i32_w]
                                                rfl
                                              refine pure_ (i := 1) (N := some 76) (v := ?_) (a' := ?_) #[true, true, false, false, false, false, false, false, false, false, false] rfl rfl (any_of HT_.out (by kernel_rfl)) (fun _ _ _ h => h) (Or.inl ⟨by rfl, ?_⟩) ?_ ?_
                                              rotate_left
                                              · intro w'
                                                go_simp
                                                with_reducible rfl
                                              rotate_left
                                              · simp only [Act.put, List.setIfInBounds_toArray, List.set_cons_zero, List.set_cons_succ, i64_w, i32_w]
                                                rfl
                                              refine pure_ (i := 2) (N := some 77) (v := ?_) (a' := ?_) #[true, true, true, false, false, false, false, false, false, false, false] rfl rfl (any_of HT_.out (by kernel_rfl)) (fun _ _ _ h => h) (Or.inl ⟨by rfl, ?_⟩) ?_ ?_
                                              rotate_left
                                              · intro w'
                                                go_simp
                                                with_reducible rfl
                                              rotate_left
                                              · simp only [Act.put, List.setIfInBounds_toArray, List.set_cons_zero, List.set_cons_succ, i64_w, i32_w]
                                                rfl
                                              refine pure_ (i := 3) (N := some 78) (v := ?_) (a' := ?_) #[true, true, true, true, false, false, false, false, false, false, false] rfl rfl (any_of HT_.out (by kernel_rfl)) (fun _ _ _ h => h) (Or.inl ⟨by rfl, ?_⟩) ?_ ?_
                                              rotate_left
                                              · intro w'
                                                go_simp
                                                with_reducible rfl
                                              rotate_left
                                              · simp only [Act.put, List.setIfInBounds_toArray, List.set_cons_zero, List.set_cons_succ, i64_w, i32_w]
                                                rfl
                                              refine pure_ (i := 5) (N := some 80) (v := ?_) (a' := ?_) #[true, true, true, true, false, true, false, false, false, false, false] rfl rfl (any_of HT_.out (by kernel_rfl)) (fun _ _ _ h => h) (Or.inl ⟨by rfl, ?_⟩) ?_ ?_
                                              rotate_left
                                              · intro w'
                                                go_simp
                                                with_reducible rfl
                                              rotate_left
                                              · simp only [Act.put, List.setIfInBounds_toArray, List.set_cons_zero, List.set_cons_succ, i64_w, i32_w]
                                                rfl
                                              refine pure_ (i := 6) (N := some 81) (v := ?_) (a' := ?_) #[true, true, true, true, false, true, true, false, false, false, false] rfl rfl (any_of HT_.out (by kernel_rfl)) (fun _ _ _ h => h) (Or.inl ⟨by rfl, ?_⟩) ?_ ?_
                                              rotate_left
                                              · intro w'
                                                go_simp
                                                with_reducible rfl
                                              rotate_left
                                              · simp only [Act.put, List.setIfInBounds_toArray, List.set_cons_zero, List.set_cons_succ, i64_w, i32_w]
                                                rfl
                                              refine pure_ (i := 7) (N := some 82) (v := ?_) (a' := ?_) #[true, true, true, true, false, true, true, true, false, false, false] rfl rfl (any_of HT_.out (by kernel_rfl)) (fun _ _ _ h => h) (Or.inl ⟨by rfl, ?_⟩) ?_ ?_
                                              rotate_left
                                              · intro w'
                                                go_simp
                                                with_reducible rfl
                                              rotate_left
                                              · simp only [Act.put, List.setIfInBounds_toArray, List.set_cons_zero, List.set_cons_succ, i64_w, i32_w]
                                                rfl
                                              refine take_ (i := 4) (N := some 79) (v := ?_) (a' := ?_) #[true, true, true, true, true, true, true, true, false, false, false] rfl rfl (take_ofW HT_.out HW_.out (by kernel_rfl)) (fun _ _ _ h => h) (Or.inl ⟨by rfl, ?_⟩) hHeld ?_ ?_
                                              rotate_left
                                              · rintro w' ⟨s0, s1, s2, s3, s4, s5⟩
                                                go_simp
                                                with_reducible rfl
                                              rotate_left
                                              · simp only [Act.put, List.setIfInBounds_toArray, List.set_cons_zero, List.set_cons_succ, i64_w, i32_w]
                                                rfl
                                              refine take_ (i := 8) (N := some 83) (v := ?_) (a' := ?_) #[true, true, true, true, true, true, true, true, true, false, false] rfl rfl (take_ofW HT_.out HW_.out (by kernel_rfl)) (fun _ _ _ h => h) (Or.inl ⟨by rfl, ?_⟩) hHeld ?_ ?_
                                              rotate_left
                                              · rintro w' ⟨s0, s1, s2, s3, s4, s5⟩
                                                go_simp
                                                with_reducible rfl
                                              rotate_left
                                              · simp only [Act.put, List.setIfInBounds_toArray, List.set_cons_zero, List.set_cons_succ, i64_w, i32_w]
                                                rfl
                                              refine one_ (i := 9) (N := some 84) #[true, true, true, true, true, true, true, true, true, true, false] rfl rfl (one_of HT_.out (by kernel_rfl)) (by decide) (fun K hK => ?_)
                                              refine goes_ Try.func25 (by kernel_rfl) rfl #[.slice A281_2 ((rd_T24 t267 x13_5).f2).length c281_2, .agg #[.int .i64 ((rd_T24 t267 a1).f0), .int .i64 ((rd_T24 t267 a1).f1), .slice A282_2 ((rd_T24 t267 a1).f2).length c282_2]] (by rfl) rfl rfl (by (try simp only [List.map_toArray, List.map_cons, List.map_nil]); first | done | rfl | (simp only [List.length_drop, List.length_take]; rfl)) ?_
                                              with_reducible refine (pelicanref06_In.calls k5 _ _ ((rd_T24 t267 x13_5).f2) ((rd_T24 t267 a1).f0) ((rd_T24 t267 a1).f1) _ _ ((rd_T24 t267 a1).f2) t283 _ ?side1 ?side2 ?side3 ?side4 A47.out).mono ?_
                                              (case side1 => repeat (first | exact (by repeat (first | (with_reducible exact HR281_2.out) | (with_reducible refine Kd.C_alloc ?_ _) | (with_reducible refine Kd.C_drewN ?_ _) | (with_reducible refine Kd.C_drew ?_) | exact HR281_2.out)) | (with_reducible refine Kd.C_alloc ?_ _) | (with_reducible refine Kd.C_drewN ?_ _) | (with_reducible refine Kd.C_drew ?_)))
                                              (case side2 => exact HC281_2.out)
                                              (case side3 => repeat (first | exact (by repeat (first | (with_reducible exact HR282_2.out) | (with_reducible refine Kd.C_alloc ?_ _) | (with_reducible refine Kd.C_drewN ?_ _) | (with_reducible refine Kd.C_drew ?_) | exact HR282_2.out)) | (with_reducible refine Kd.C_alloc ?_ _) | (with_reducible refine Kd.C_drewN ?_ _) | (with_reducible refine Kd.C_drew ?_)))
                                              (case side4 => exact HC282_2.out)
                                              rintro e w53 ⟨rfl, hb⟩
                                              have HS0_ := (hb.cell (World.block_lt_of_cell? _ _ (hHeld.1))).trans (hHeld.1)
                                              have HS1_ := (hb.cell (World.block_lt_of_cell? _ _ (hHeld.2.1))).trans (hHeld.2.1)
                                              have HS2_ := (hb.cell (World.block_lt_of_cell? _ _ (hHeld.2.2.1))).trans (hHeld.2.2.1)
                                              have HS3_ := (hb.cell (World.block_lt_of_cell? _ _ (hHeld.2.2.2.1))).trans (hHeld.2.2.2.1)
                                              have HS4_ := (hb.cell (World.block_lt_of_cell? _ _ (hHeld.2.2.2.2.1))).trans (hHeld.2.2.2.2.1)
                                              have HS5_ := (hb.cell (World.block_lt_of_cell? _ _ (hHeld.2.2.2.2.2))).trans (hHeld.2.2.2.2.2)
                                              refine ⟨_, rfl, ?_⟩
                                              have n0_ := Aside0.mk (Kd.N_below (by (with_reducible repeat (first | apply Kd.N_alloc | apply Kd.N_drewN | apply Kd.N_drew)); exact HO_9.out) hb)
                                              have n1_ := Aside0.mk (Kd.V_below (by (with_reducible repeat (first | apply Kd.V_alloc | apply Kd.V_drewN | apply Kd.V_drew)); exact HL281_2.out) hb)
                                              have n2_ := Aside0.mk (Kd.V_below (by (with_reducible repeat (first | apply Kd.V_alloc | apply Kd.V_drewN | apply Kd.V_drew)); exact HL282_2.out) hb)
                                              have n3_ := Aside0.mk (Kd.C_below (by repeat (first | (with_reducible exact HR277_2.out) | (with_reducible refine Kd.C_alloc ?_ _) | (with_reducible refine Kd.C_drewN ?_ _) | (with_reducible refine Kd.C_drew ?_) | exact HR277_2.out)) hb)
                                              have n4_ := Aside0.mk (Kd.C_below (by repeat (first | (with_reducible exact HR279_2.out) | (with_reducible refine Kd.C_alloc ?_ _) | (with_reducible refine Kd.C_drewN ?_ _) | (with_reducible refine Kd.C_drew ?_) | exact HR279_2.out)) hb)
                                              have n5_ := Aside0.mk (Kd.C_below (by repeat (first | (with_reducible exact HR281_2.out) | (with_reducible refine Kd.C_alloc ?_ _) | (with_reducible refine Kd.C_drewN ?_ _) | (with_reducible refine Kd.C_drew ?_) | exact HR281_2.out)) hb)
                                              have n6_ := Aside0.mk (Kd.C_below (by repeat (first | (with_reducible exact HR282_2.out) | (with_reducible refine Kd.C_alloc ?_ _) | (with_reducible refine Kd.C_drewN ?_ _) | (with_reducible refine Kd.C_drew ?_) | exact HR282_2.out)) hb)
                                              have n7_ := Aside0.mk (below_step (by repeat (first | (with_reducible first | exact HB.out | apply below_alloc | apply pw_below_drewN | apply below_drew1) | exact HB.out)) hb)
                                              clear HO_9
                                              clear HL281_2
                                              clear HL282_2
                                              clear HR277_2
                                              clear HR279_2
                                              clear HR281_2
                                              clear HR282_2
                                              clear HB
                                              have HO_9 := n0_
                                              have HL281_2 := n1_
                                              have HL282_2 := n2_
                                              have HR277_2 := n3_
                                              have HR279_2 := n4_
                                              have HR281_2 := n5_
                                              have HR282_2 := n6_
                                              have HB := n7_
                                              clear n0_ n1_ n2_ n3_ n4_ n5_ n6_ n7_
                                              (try clear hb)
                                              (try clear hb2)
                                              (try clear hk)
                                              (try clear hi)
                                              refine hK.out _ _ ⟨HS0_, HS1_, HS2_, HS3_, HS4_, HS5_⟩ (fun hHeld => ?_)
                                              clear hK K
                                              refine norm_ (a' := ?_) ?_ ?_
                                              rotate_left
                                              · show Act.put _ (some 84) _ = _
                                                simp only [Act.put, List.setIfInBounds_toArray, List.set_cons_zero, List.set_cons_succ, i64_w, i32_w]
                                                rfl
                                              refine pure_ (i := 10) (N := some 14) (v := ?_) (a' := ?_) #[true, true, true, true, true, true, true, true, true, true, true] rfl rfl (any_of HT_.out (by kernel_rfl)) (fun _ _ _ h => h) (Or.inl ⟨by rfl, ?_⟩) ?_ ?_
                                              rotate_left
                                              · intro w'
                                                go_simp
                                                with_reducible rfl
                                              rotate_left
                                              · simp only [Act.put, List.setIfInBounds_toArray, List.set_cons_zero, List.set_cons_succ, i64_w, i32_w]
                                                rfl
                                              refine done_ (done_of HT_.out (by kernel_rfl)) ?_
                                              have p284 : 0 ≤ (x13_5 : Int) := of_decide_eq_true (by first | (with_reducible assumption) | assumption)
                                              have q284 : x13_5 < (t267.length : Int) := of_decide_eq_true (by first | (with_reducible assumption) | assumption)
                                              obtain ⟨ad284, A284_2, c284_2, e284, hx284_0, hx284_1, hx284_2, hl284_2, hi284_2⟩ := at_T24 (Kd.N_reads' HO_9.out).2.2 x13_5 p284 q284
                                              obtain rfl : ad277 = ad284 := (by injection e284)
                                              obtain ⟨ce284, hce284, hMe284, hcc284⟩ := Kd.N_get HO_9.out z24 x13_5 p284 (by first | exact q284 | exact of_decide_eq_true (by first | (with_reducible assumption) | assumption) | (have e_ := (Kd.N_reads' HO_9.out).1; omega))
                                              obtain ⟨ua284_2, uc284_2, rfl, ul284_2, ge284_2⟩ := k24_openF hMe284
                                              have hv284_2 := hcc284 2 _ rfl
                                              rw [add_field _ _ 2 (by omega)] at hv284_2
                                              replace hv284_2 := Option.some.inj (hv284_2.symm.trans hx284_2)
                                              injection hv284_2 with hva_ hvn_ hvc_
                                              rw [hva_] at ge284_2
                                              rw [hvc_] at ul284_2
                                              have HL284_2 := Aside0.mk (show Kd.V k24 24 _ w.heap.size _ _ ((rd_T24 t267 x13_5).f2) from Kd.V_mk ul284_2 ge284_2)
                                              clear hva_ hvn_ hvc_ ge284_2 ul284_2
                                              clear hcc284 hce284
                                              have HR284_2 := Aside0.mk hi284_2
                                              have HC284_2 := Aside0.mk hl284_2
                                              clear hi284_2 hl284_2
                                              replace p284 := eq_true p284
                                              replace q284 := eq_true q284
                                              try go_wp2
                                              go_roundg k5
                                              case measure => have := HJ5.out; have := HJ14.out; have := HJ17.out; have := HJ27.out; have := HK5.out; omega
                                              case rel => exact ⟨(t283), (wrap64 (x13_5 + 1)), (by first | rfl | (simp; done) | (simp [*]; done)), (by first | rfl | (simp; done) | (simp [*]; done)), H', ⟨by have := HJ5.out; have := HJ14.out; have := HJ17.out; have := HJ27.out; have := HK5.out; omega⟩, ⟨by (with_reducible repeat (first | apply Kd.N_alloc | apply Kd.N_drewN | apply Kd.N_drew)); exact HO_9.out⟩, ⟨by repeat (first | (with_reducible exact HR277_2.out) | (with_reducible refine Kd.C_alloc ?_ _) | (with_reducible refine Kd.C_drewN ?_ _) | (with_reducible refine Kd.C_drew ?_) | exact HR277_2.out)⟩, ⟨by repeat (first | (with_reducible exact HR279_2.out) | (with_reducible refine Kd.C_alloc ?_ _) | (with_reducible refine Kd.C_drewN ?_ _) | (with_reducible refine Kd.C_drew ?_) | exact HR279_2.out)⟩, ⟨by repeat (first | (with_reducible first | exact HB.out | apply below_alloc | apply pw_below_drewN | apply below_drew1) | exact HB.out)⟩⟩
                                            · rw [if_neg c51] at H
                                              have c51b0 : (((rd_T24 t267 x13_5).f0) == 2) = false := beq_eq_false_iff_ne.mpr c51
                                              have c51b1 : (((rd_T24 t267 x13_5).f0) != 2) = true := bne_iff_ne.mpr c51
                                              have H' := Aside0.mk H
                                              clear H
                                              try go_wp2
                                              have n0_ := Aside0.mk (Kd.N_drew HO_9.out)
                                              have n1_ := Aside0.mk (Kd.C_drew HR277_2.out)
                                              have n2_ := Aside0.mk (Kd.C_drew HR279_2.out)
                                              have n3_ := Aside0.mk (below_drew1 HB.out)
                                              clear HO_9
                                              clear HR277_2
                                              clear HR279_2
                                              clear HB
                                              have HO_9 := n0_
                                              have HR277_2 := n1_
                                              have HR279_2 := n2_
                                              have HB := n3_
                                              clear n0_ n1_ n2_ n3_
                                              have p281 : 0 ≤ (x13_5 : Int) := of_decide_eq_true (by first | (with_reducible assumption) | assumption)
                                              have q281 : x13_5 < (t267.length : Int) := of_decide_eq_true (by first | (with_reducible assumption) | assumption)
                                              obtain ⟨ad281, A281_2, c281_2, e281, hx281_0, hx281_1, hx281_2, hl281_2, hi281_2⟩ := at_T24 (Kd.N_reads' HO_9.out).2.2 x13_5 p281 q281
                                              obtain rfl : ad277 = ad281 := (by injection e281)
                                              obtain ⟨ce281, hce281, hMe281, hcc281⟩ := Kd.N_get HO_9.out z24 x13_5 p281 (by first | exact q281 | exact of_decide_eq_true (by first | (with_reducible assumption) | assumption) | (have e_ := (Kd.N_reads' HO_9.out).1; omega))
                                              obtain ⟨ua281_2, uc281_2, rfl, ul281_2, ge281_2⟩ := k24_openF hMe281
                                              have hv281_2 := hcc281 2 _ rfl
                                              rw [add_field _ _ 2 (by omega)] at hv281_2
                                              replace hv281_2 := Option.some.inj (hv281_2.symm.trans hx281_2)
                                              injection hv281_2 with hva_ hvn_ hvc_
                                              rw [hva_] at ge281_2
                                              rw [hvc_] at ul281_2
                                              have HL281_2 := Aside0.mk (show Kd.V k24 24 _ w.heap.size _ _ ((rd_T24 t267 x13_5).f2) from Kd.V_mk ul281_2 ge281_2)
                                              clear hva_ hvn_ hvc_ ge281_2 ul281_2
                                              clear hcc281 hce281
                                              have HR281_2 := Aside0.mk hi281_2
                                              have HC281_2 := Aside0.mk hl281_2
                                              clear hi281_2 hl281_2
                                              replace p281 := eq_true p281
                                              replace q281 := eq_true q281
                                              have p282 : 0 ≤ (a1 : Int) := of_decide_eq_true (by first | (with_reducible assumption) | assumption)
                                              have q282 : a1 < (t267.length : Int) := of_decide_eq_true (by first | (with_reducible assumption) | assumption)
                                              obtain ⟨ad282, A282_2, c282_2, e282, hx282_0, hx282_1, hx282_2, hl282_2, hi282_2⟩ := at_T24 (Kd.N_reads' HO_9.out).2.2 a1 p282 q282
                                              obtain rfl : ad277 = ad282 := (by injection e282)
                                              obtain ⟨ce282, hce282, hMe282, hcc282⟩ := Kd.N_get HO_9.out z24 a1 p282 (by first | exact q282 | exact of_decide_eq_true (by first | (with_reducible assumption) | assumption) | (have e_ := (Kd.N_reads' HO_9.out).1; omega))
                                              obtain ⟨ua282_2, uc282_2, rfl, ul282_2, ge282_2⟩ := k24_openF hMe282
                                              have hv282_2 := hcc282 2 _ rfl
                                              rw [add_field _ _ 2 (by omega)] at hv282_2
                                              replace hv282_2 := Option.some.inj (hv282_2.symm.trans hx282_2)
                                              injection hv282_2 with hva_ hvn_ hvc_
                                              rw [hva_] at ge282_2
                                              rw [hvc_] at ul282_2
                                              have HL282_2 := Aside0.mk (show Kd.V k24 24 _ w.heap.size _ _ ((rd_T24 t267 a1).f2) from Kd.V_mk ul282_2 ge282_2)
                                              clear hva_ hvn_ hvc_ ge282_2 ul282_2
                                              clear hcc282 hce282
                                              have HR282_2 := Aside0.mk hi282_2
                                              have HC282_2 := Aside0.mk hl282_2
                                              clear hi282_2 hl282_2
                                              replace p282 := eq_true p282
                                              replace q282 := eq_true q282
                                              refine start_ (n := 11) (S := fun w' => w'.cell? (ad277.add ((x13_5).toNat * 3)) = some (.int .i64 ((rd_T24 t267 x13_5).f0)) ∧ w'.cell? ⟨(ad277.add ((x13_5).toNat * 3)).block, (ad277.add ((x13_5).toNat * 3)).off + 1, none⟩ = some (.int .i64 ((rd_T24 t267 x13_5).f1)) ∧ w'.cell? ⟨(ad277.add ((x13_5).toNat * 3)).block, (ad277.add ((x13_5).toNat * 3)).off + 2, none⟩ = some (.slice A281_2 ((rd_T24 t267 x13_5).f2).length c281_2) ∧ w'.cell? (ad277.add ((a1).toNat * 3)) = some (.int .i64 ((rd_T24 t267 a1).f0)) ∧ w'.cell? ⟨(ad277.add ((a1).toNat * 3)).block, (ad277.add ((a1).toNat * 3)).off + 1, none⟩ = some (.int .i64 ((rd_T24 t267 a1).f1)) ∧ w'.cell? ⟨(ad277.add ((a1).toNat * 3)).block, (ad277.add ((a1).toNat * 3)).off + 2, none⟩ = some (.slice A282_2 ((rd_T24 t267 a1).f2).length c282_2)) (ds := []) #[false, false, false, false, false, false, false, false, false, false, false] (by kernel_rfl) rfl rfl ⟨hx281_0, hx281_1, hx281_2, hx282_0, hx282_1, hx282_2⟩ (fun hHeld => ?_); refine with_tabW pelicanlaw06_KnowParts.tab17 pelicanlaw06_KnowParts.bits17 (fun HT_ HW_ => ?_)
                                              generalize wr.drew = w54 at HO_9 HR277_2 HR279_2 HB HL281_2 HL282_2 HR281_2 HR282_2 hx281_0 hx281_1 hx281_2 hx282_0 hx282_1 hx282_2 hHeld ⊢
                                              refine pure_ (i := 0) (N := some 75) (v := ?_) (a' := ?_) #[true, false, false, false, false, false, false, false, false, false, false] rfl rfl (any_of HT_.out (by kernel_rfl)) (fun _ _ _ h => h) (Or.inl ⟨by rfl, ?_⟩) ?_ ?_
                                              rotate_left
                                              · intro w'
                                                go_simp
                                                with_reducible rfl
                                              rotate_left
                                              · simp only [Act.put, List.setIfInBounds_toArray, List.set_cons_zero, List.set_cons_succ, i64_w, i32_w]
                                                rfl
                                              refine pure_ (i := 1) (N := some 76) (v := ?_) (a' := ?_) #[true, true, false, false, false, false, false, false, false, false, false] rfl rfl (any_of HT_.out (by kernel_rfl)) (fun _ _ _ h => h) (Or.inl ⟨by rfl, ?_⟩) ?_ ?_
                                              rotate_left
                                              · intro w'
                                                go_simp
                                                with_reducible rfl
                                              rotate_left
                                              · simp only [Act.put, List.setIfInBounds_toArray, List.set_cons_zero, List.set_cons_succ, i64_w, i32_w]
                                                rfl
                                              refine pure_ (i := 2) (N := some 77) (v := ?_) (a' := ?_) #[true, true, true, false, false, false, false, false, false, false, false] rfl rfl (any_of HT_.out (by kernel_rfl)) (fun _ _ _ h => h) (Or.inl ⟨by rfl, ?_⟩) ?_ ?_
                                              rotate_left
                                              · intro w'
                                                go_simp
                                                with_reducible rfl
                                              rotate_left
                                              · simp only [Act.put, List.setIfInBounds_toArray, List.set_cons_zero, List.set_cons_succ, i64_w, i32_w]
                                                rfl
                                              refine pure_ (i := 3) (N := some 78) (v := ?_) (a' := ?_) #[true, true, true, true, false, false, false, false, false, false, false] rfl rfl (any_of HT_.out (by kernel_rfl)) (fun _ _ _ h => h) (Or.inl ⟨by rfl, ?_⟩) ?_ ?_
                                              rotate_left
                                              · intro w'
                                                go_simp
                                                with_reducible rfl
                                              rotate_left
                                              · simp only [Act.put, List.setIfInBounds_toArray, List.set_cons_zero, List.set_cons_succ, i64_w, i32_w]
                                                rfl
                                              refine pure_ (i := 5) (N := some 80) (v := ?_) (a' := ?_) #[true, true, true, true, false, true, false, false, false, false, false] rfl rfl (any_of HT_.out (by kernel_rfl)) (fun _ _ _ h => h) (Or.inl ⟨by rfl, ?_⟩) ?_ ?_
                                              rotate_left
                                              · intro w'
                                                go_simp
                                                with_reducible rfl
                                              rotate_left
                                              · simp only [Act.put, List.setIfInBounds_toArray, List.set_cons_zero, List.set_cons_succ, i64_w, i32_w]
                                                rfl
                                              refine pure_ (i := 6) (N := some 81) (v := ?_) (a' := ?_) #[true, true, true, true, false, true, true, false, false, false, false] rfl rfl (any_of HT_.out (by kernel_rfl)) (fun _ _ _ h => h) (Or.inl ⟨by rfl, ?_⟩) ?_ ?_
                                              rotate_left
                                              · intro w'
                                                go_simp
                                                with_reducible rfl
                                              rotate_left
                                              · simp only [Act.put, List.setIfInBounds_toArray, List.set_cons_zero, List.set_cons_succ, i64_w, i32_w]
                                                rfl
                                              refine pure_ (i := 7) (N := some 82) (v := ?_) (a' := ?_) #[true, true, true, true, false, true, true, true, false, false, false] rfl rfl (any_of HT_.out (by kernel_rfl)) (fun _ _ _ h => h) (Or.inl ⟨by rfl, ?_⟩) ?_ ?_
                                              rotate_left
                                              · intro w'
                                                go_simp
                                                with_reducible rfl
                                              rotate_left
                                              · simp only [Act.put, List.setIfInBounds_toArray, List.set_cons_zero, List.set_cons_succ, i64_w, i32_w]
                                                rfl
                                              refine take_ (i := 4) (N := some 79) (v := ?_) (a' := ?_) #[true, true, true, true, true, true, true, true, false, false, false] rfl rfl (take_ofW HT_.out HW_.out (by kernel_rfl)) (fun _ _ _ h => h) (Or.inl ⟨by rfl, ?_⟩) hHeld ?_ ?_
                                              rotate_left
                                              · rintro w' ⟨s0, s1, s2, s3, s4, s5⟩
                                                go_simp
                                                with_reducible rfl
                                              rotate_left
                                              · simp only [Act.put, List.setIfInBounds_toArray, List.set_cons_zero, List.set_cons_succ, i64_w, i32_w]
                                                rfl
                                              refine take_ (i := 8) (N := some 83) (v := ?_) (a' := ?_) #[true, true, true, true, true, true, true, true, true, false, false] rfl rfl (take_ofW HT_.out HW_.out (by kernel_rfl)) (fun _ _ _ h => h) (Or.inl ⟨by rfl, ?_⟩) hHeld ?_ ?_
                                              rotate_left
                                              · rintro w' ⟨s0, s1, s2, s3, s4, s5⟩
                                                go_simp
                                                with_reducible rfl
                                              rotate_left
                                              · simp only [Act.put, List.setIfInBounds_toArray, List.set_cons_zero, List.set_cons_succ, i64_w, i32_w]
                                                rfl
                                              refine one_ (i := 9) (N := some 84) #[true, true, true, true, true, true, true, true, true, true, false] rfl rfl (one_of HT_.out (by kernel_rfl)) (by decide) (fun K hK => ?_)
                                              refine goes_ Try.func25 (by kernel_rfl) rfl #[.slice A281_2 ((rd_T24 t267 x13_5).f2).length c281_2, .agg #[.int .i64 ((rd_T24 t267 a1).f0), .int .i64 ((rd_T24 t267 a1).f1), .slice A282_2 ((rd_T24 t267 a1).f2).length c282_2]] (by rfl) rfl rfl (by (try simp only [List.map_toArray, List.map_cons, List.map_nil]); first | done | rfl | (simp only [List.length_drop, List.length_take]; rfl)) ?_
                                              with_reducible refine (pelicanref06_In.calls k5 _ _ ((rd_T24 t267 x13_5).f2) ((rd_T24 t267 a1).f0) ((rd_T24 t267 a1).f1) _ _ ((rd_T24 t267 a1).f2) t283 _ ?side1 ?side2 ?side3 ?side4 A47.out).mono ?_
                                              (case side1 => repeat (first | exact (by repeat (first | (with_reducible exact HR281_2.out) | (with_reducible refine Kd.C_alloc ?_ _) | (with_reducible refine Kd.C_drewN ?_ _) | (with_reducible refine Kd.C_drew ?_) | exact HR281_2.out)) | (with_reducible refine Kd.C_alloc ?_ _) | (with_reducible refine Kd.C_drewN ?_ _) | (with_reducible refine Kd.C_drew ?_)))
                                              (case side2 => exact HC281_2.out)
                                              (case side3 => repeat (first | exact (by repeat (first | (with_reducible exact HR282_2.out) | (with_reducible refine Kd.C_alloc ?_ _) | (with_reducible refine Kd.C_drewN ?_ _) | (with_reducible refine Kd.C_drew ?_) | exact HR282_2.out)) | (with_reducible refine Kd.C_alloc ?_ _) | (with_reducible refine Kd.C_drewN ?_ _) | (with_reducible refine Kd.C_drew ?_)))
                                              (case side4 => exact HC282_2.out)
                                              rintro e w55 ⟨rfl, hb⟩
                                              have HS0_ := (hb.cell (World.block_lt_of_cell? _ _ (hHeld.1))).trans (hHeld.1)
                                              have HS1_ := (hb.cell (World.block_lt_of_cell? _ _ (hHeld.2.1))).trans (hHeld.2.1)
                                              have HS2_ := (hb.cell (World.block_lt_of_cell? _ _ (hHeld.2.2.1))).trans (hHeld.2.2.1)
                                              have HS3_ := (hb.cell (World.block_lt_of_cell? _ _ (hHeld.2.2.2.1))).trans (hHeld.2.2.2.1)
                                              have HS4_ := (hb.cell (World.block_lt_of_cell? _ _ (hHeld.2.2.2.2.1))).trans (hHeld.2.2.2.2.1)
                                              have HS5_ := (hb.cell (World.block_lt_of_cell? _ _ (hHeld.2.2.2.2.2))).trans (hHeld.2.2.2.2.2)
                                              refine ⟨_, rfl, ?_⟩
                                              have n0_ := Aside0.mk (Kd.N_below (by (with_reducible repeat (first | apply Kd.N_alloc | apply Kd.N_drewN | apply Kd.N_drew)); exact HO_9.out) hb)
                                              have n1_ := Aside0.mk (Kd.V_below (by (with_reducible repeat (first | apply Kd.V_alloc | apply Kd.V_drewN | apply Kd.V_drew)); exact HL281_2.out) hb)
                                              have n2_ := Aside0.mk (Kd.V_below (by (with_reducible repeat (first | apply Kd.V_alloc | apply Kd.V_drewN | apply Kd.V_drew)); exact HL282_2.out) hb)
                                              have n3_ := Aside0.mk (Kd.C_below (by repeat (first | (with_reducible exact HR277_2.out) | (with_reducible refine Kd.C_alloc ?_ _) | (with_reducible refine Kd.C_drewN ?_ _) | (with_reducible refine Kd.C_drew ?_) | exact HR277_2.out)) hb)
                                              have n4_ := Aside0.mk (Kd.C_below (by repeat (first | (with_reducible exact HR279_2.out) | (with_reducible refine Kd.C_alloc ?_ _) | (with_reducible refine Kd.C_drewN ?_ _) | (with_reducible refine Kd.C_drew ?_) | exact HR279_2.out)) hb)
                                              have n5_ := Aside0.mk (Kd.C_below (by repeat (first | (with_reducible exact HR281_2.out) | (with_reducible refine Kd.C_alloc ?_ _) | (with_reducible refine Kd.C_drewN ?_ _) | (with_reducible refine Kd.C_drew ?_) | exact HR281_2.out)) hb)
                                              have n6_ := Aside0.mk (Kd.C_below (by repeat (first | (with_reducible exact HR282_2.out) | (with_reducible refine Kd.C_alloc ?_ _) | (with_reducible refine Kd.C_drewN ?_ _) | (with_reducible refine Kd.C_drew ?_) | exact HR282_2.out)) hb)
                                              have n7_ := Aside0.mk (below_step (by repeat (first | (with_reducible first | exact HB.out | apply below_alloc | apply pw_below_drewN | apply below_drew1) | exact HB.out)) hb)
                                              clear HO_9
                                              clear HL281_2
                                              clear HL282_2
                                              clear HR277_2
                                              clear HR279_2
                                              clear HR281_2
                                              clear HR282_2
                                              clear HB
                                              have HO_9 := n0_
                                              have HL281_2 := n1_
                                              have HL282_2 := n2_
                                              have HR277_2 := n3_
                                              have HR279_2 := n4_
                                              have HR281_2 := n5_
                                              have HR282_2 := n6_
                                              have HB := n7_
                                              clear n0_ n1_ n2_ n3_ n4_ n5_ n6_ n7_
                                              (try clear hb)
                                              (try clear hb2)
                                              (try clear hk)
                                              (try clear hi)
                                              refine hK.out _ _ ⟨HS0_, HS1_, HS2_, HS3_, HS4_, HS5_⟩ (fun hHeld => ?_)
                                              clear hK K
                                              refine norm_ (a' := ?_) ?_ ?_
                                              rotate_left
                                              · show Act.put _ (some 84) _ = _
                                                simp only [Act.put, List.setIfInBounds_toArray, List.set_cons_zero, List.set_cons_succ, i64_w, i32_w]
                                                rfl
                                              refine pure_ (i := 10) (N := some 14) (v := ?_) (a' := ?_) #[true, true, true, true, true, true, true, true, true, true, true] rfl rfl (any_of HT_.out (by kernel_rfl)) (fun _ _ _ h => h) (Or.inl ⟨by rfl, ?_⟩) ?_ ?_
                                              rotate_left
                                              · intro w'
                                                go_simp
                                                with_reducible rfl
                                              rotate_left
                                              · simp only [Act.put, List.setIfInBounds_toArray, List.set_cons_zero, List.set_cons_succ, i64_w, i32_w]
                                                rfl
                                              refine done_ (done_of HT_.out (by kernel_rfl)) ?_
                                              have p284 : 0 ≤ (x13_5 : Int) := of_decide_eq_true (by first | (with_reducible assumption) | assumption)
                                              have q284 : x13_5 < (t267.length : Int) := of_decide_eq_true (by first | (with_reducible assumption) | assumption)
                                              obtain ⟨ad284, A284_2, c284_2, e284, hx284_0, hx284_1, hx284_2, hl284_2, hi284_2⟩ := at_T24 (Kd.N_reads' HO_9.out).2.2 x13_5 p284 q284
                                              obtain rfl : ad277 = ad284 := (by injection e284)
                                              obtain ⟨ce284, hce284, hMe284, hcc284⟩ := Kd.N_get HO_9.out z24 x13_5 p284 (by first | exact q284 | exact of_decide_eq_true (by first | (with_reducible assumption) | assumption) | (have e_ := (Kd.N_reads' HO_9.out).1; omega))
                                              obtain ⟨ua284_2, uc284_2, rfl, ul284_2, ge284_2⟩ := k24_openF hMe284
                                              have hv284_2 := hcc284 2 _ rfl
                                              rw [add_field _ _ 2 (by omega)] at hv284_2
                                              replace hv284_2 := Option.some.inj (hv284_2.symm.trans hx284_2)
                                              injection hv284_2 with hva_ hvn_ hvc_
                                              rw [hva_] at ge284_2
                                              rw [hvc_] at ul284_2
                                              have HL284_2 := Aside0.mk (show Kd.V k24 24 _ w.heap.size _ _ ((rd_T24 t267 x13_5).f2) from Kd.V_mk ul284_2 ge284_2)
                                              clear hva_ hvn_ hvc_ ge284_2 ul284_2
                                              clear hcc284 hce284
                                              have HR284_2 := Aside0.mk hi284_2
                                              have HC284_2 := Aside0.mk hl284_2
                                              clear hi284_2 hl284_2
                                              replace p284 := eq_true p284
                                              replace q284 := eq_true q284
                                              try go_wp2
                                              go_roundg k5
                                              case measure => have := HJ5.out; have := HJ14.out; have := HJ17.out; have := HJ27.out; have := HK5.out; omega
                                              case rel => exact ⟨(false), (wrap64 (x13_5 + 1)), (by first | rfl | (simp; done) | (simp [*]; done)), (by first | rfl | (simp; done) | (simp [*]; done)), H', ⟨by have := HJ5.out; have := HJ14.out; have := HJ17.out; have := HJ27.out; have := HK5.out; omega⟩, ⟨by (with_reducible repeat (first | apply Kd.N_alloc | apply Kd.N_drewN | apply Kd.N_drew)); exact HO_9.out⟩, ⟨by repeat (first | (with_reducible exact HR277_2.out) | (with_reducible refine Kd.C_alloc ?_ _) | (with_reducible refine Kd.C_drewN ?_ _) | (with_reducible refine Kd.C_drew ?_) | exact HR277_2.out)⟩, ⟨by repeat (first | (with_reducible exact HR279_2.out) | (with_reducible refine Kd.C_alloc ?_ _) | (with_reducible refine Kd.C_drewN ?_ _) | (with_reducible refine Kd.C_drew ?_) | exact HR279_2.out)⟩, ⟨by repeat (first | (with_reducible first | exact HB.out | apply below_alloc | apply pw_below_drewN | apply below_drew1) | exact HB.out)⟩⟩
                                        · rw [if_neg c46] at H
                                          exact absurd H (by simp)
                                      · rw [if_neg c45] at H
                                        exact absurd H (by simp)
                                    · rw [if_neg c44] at H
                                      exact absurd H (by simp)
                                  · rw [if_neg c43] at H
                                    exact absurd H (by simp)
                                · rw [if_neg c42] at H
                                  have c42b0 : decide (x13_5 < a1) = false := decide_eq_false c42
                                  clear c42
                                  by_cases c56 : t278 = true
                                  · subst c56
                                    have H1 : (some false) = some r := by rw [if_pos rfl] at H; exact H
                                    clear H
                                    have H := H1
                                    clear H1
                                    exact absurd ((Option.some.inj H).trans hr_.out) (by decide)
                                  · replace c56 := Bool.eq_false_iff.mpr c56
                                    subst c56
                                    have H1 : (some x12_5) = some r := by rw [if_neg (show ¬ (false = true) by decide)] at H; exact H
                                    clear H
                                    have H := H1
                                    clear H1
                                    obtain rfl := Option.some.inj H
                                    go_wp2
                                    go_ret
                                    exact ⟨by first | rfl | (simp [errW_none, errW_some] <;> rfl) | (simp [*, errW_none, errW_some] <;> rfl), by repeat (first | (with_reducible first | exact HB.out | apply below_alloc | apply pw_below_drewN | apply below_drew1) | exact HB.out)⟩
                          · rw [if_neg c34] at H
                            exact absurd H (by simp)
                        · rw [if_neg c33] at H
                          exact absurd H (by simp)
                      · rw [if_neg c32] at H
                        exact absurd H (by simp)

end Go.Proofs.Ytfonjmggalkbjaa.P
