-- Laid by a program of this session (wip/pp.py), which calls the kit's print.
import Derived.Test.YtfonjmggalkbjaaPx0
namespace Go.Proofs.Ytfonjmggalkbjaa.P
open Go.RowKit Go.Proofs.YtfonjmggalkbjaaW.PrintWords Go.Proofs.YtfonjmggalkbjaaW.PrintLast Go.Proofs.YtfonjmggalkbjaaW.PrintMore
attribute [local go_sem] max2_int min2_int max_two min_two max_three min_three max_four min_four   -- for this text's walks alone
set_option linter.unusedVariables false
set_option linter.unusedSimpArgs false

/-! ### pelicanref05_nodes: function 49 -/
mutual
def pelicanref05_nodes.j0 : Nat → Bool → Int → Int → List (S24) → Option (Bool)
  | 0, _, _, _, _ => none
  | k + 1, x3, x143000, x143001, x143002 => if x143000 = 2 then (pelicanref05_nodes.j1 k x3 true x143000 x143001 x143002) else (pelicanref05_nodes.j1 k x3 (x143000 == 3) x143000 x143001 x143002)
def pelicanref05_nodes.j1 : Nat → Bool → Bool → Int → Int → List (S24) → Option (Bool)
  | 0, _, _, _, _, _ => none
  | k + 1, x3, x4, x143000, x143001, x143002 => if x3 = true then (if x143001 < 0 then (pelicanref05_nodes.j2 k true x143000 x143001 x143002) else (if (x143002.length : Int) = 0 then (if x4 = true then (if x143001 = 0 then (pelicanref05_nodes.j2 k ((x143002.length : Int) != 2) x143000 x143001 x143002) else (pelicanref05_nodes.j2 k true x143000 x143001 x143002)) else (pelicanref05_nodes.j2 k false x143000 x143001 x143002)) else (pelicanref05_nodes.j2 k true x143000 x143001 x143002))) else (if x4 = true then (if x143001 = 0 then (pelicanref05_nodes.j2 k ((x143002.length : Int) != 2) x143000 x143001 x143002) else (pelicanref05_nodes.j2 k true x143000 x143001 x143002)) else (pelicanref05_nodes.j2 k true x143000 x143001 x143002))
def pelicanref05_nodes.j2 : Nat → Bool → Int → Int → List (S24) → Option (Bool)
  | 0, _, _, _, _ => none
  | k + 1, x56, x143000, x143001, x143002 => if x56 = true then (some false) else (pelicanref05_nodes.l0 k 0 x143000 x143001 x143002)
def pelicanref05_nodes.l0 : Nat → Int → Int → Int → List (S24) → Option (Bool)
  | 0, _, _, _, _ => none
  | k + 1, x5, x143000, x143001, x143002 => if x5 < (x143002.length : Int) then (if 0 ≤ x5 then ((pelicanref05_nodes.f k ((rd_T24 x143002 x5).f0) ((rd_T24 x143002 x5).f1) ((rd_T24 x143002 x5).f2)).bind fun t144 => (if t144 = true then (pelicanref05_nodes.l0 k (wrap64 (x5 + 1)) x143000 x143001 x143002) else (some false))) else (none)) else (some true)
def pelicanref05_nodes.f : Nat → Int → Int → List (S24) → Option (Bool)
  | 0, _, _, _ => none
  | k + 1, a0_0, a0_1, l0_2 => if a0_0 = 0 then (pelicanref05_nodes.j0 k true a0_0 a0_1 l0_2) else (pelicanref05_nodes.j0 k (a0_0 == 1) a0_0 a0_1 l0_2)
end
theorem pelicanref05_nodes.mono_l : ∀ k, (∀ y0 y1 y2, LeO (pelicanref05_nodes.f k y0 y1 y2) (pelicanref05_nodes.f (k + 1) y0 y1 y2)) ∧ (∀ y0 y1 y2 y3, LeO (pelicanref05_nodes.j0 k y0 y1 y2 y3) (pelicanref05_nodes.j0 (k + 1) y0 y1 y2 y3)) ∧ (∀ y0 y1 y2 y3 y4, LeO (pelicanref05_nodes.j1 k y0 y1 y2 y3 y4) (pelicanref05_nodes.j1 (k + 1) y0 y1 y2 y3 y4)) ∧ (∀ y0 y1 y2 y3, LeO (pelicanref05_nodes.j2 k y0 y1 y2 y3) (pelicanref05_nodes.j2 (k + 1) y0 y1 y2 y3)) ∧ (∀ y0 y1 y2 y3, LeO (pelicanref05_nodes.l0 k y0 y1 y2 y3) (pelicanref05_nodes.l0 (k + 1) y0 y1 y2 y3))
  | 0 => ⟨fun _ _ _ r h => by simp [pelicanref05_nodes.f] at h, fun _ _ _ _ r h => by simp [pelicanref05_nodes.j0] at h, fun _ _ _ _ _ r h => by simp [pelicanref05_nodes.j1] at h, fun _ _ _ _ r h => by simp [pelicanref05_nodes.j2] at h, fun _ _ _ _ r h => by simp [pelicanref05_nodes.l0] at h⟩
  | k + 1 => by
    obtain ⟨ih0, ih1, ih2, ih3, ih4⟩ := pelicanref05_nodes.mono_l k
    refine ⟨?_, ?_, ?_, ?_, ?_⟩
    · intro y0 y1 y2
      unfold pelicanref05_nodes.f
      repeat' first
      | (with_reducible exact ih0 _ _ _)
      | (with_reducible exact ih1 _ _ _ _)
      | (with_reducible exact ih2 _ _ _ _ _)
      | (with_reducible exact ih3 _ _ _ _)
      | (with_reducible exact ih4 _ _ _ _)
      | (with_reducible exact LeO.refl _)
      | (with_reducible exact LeO.none _)
      | (with_reducible refine LeO.ite ?_ ?_)
      | (with_reducible refine LeO.bind ?_ (fun _ => ?_))
      | exact ih0 _ _ _
      | exact ih1 _ _ _ _
      | exact ih2 _ _ _ _ _
      | exact ih3 _ _ _ _
      | exact ih4 _ _ _ _
      | exact LeO.none _
      | refine LeO.ite ?_ ?_
      | refine LeO.bind ?_ (fun _ => ?_)
    · intro y0 y1 y2 y3
      unfold pelicanref05_nodes.j0
      repeat' first
      | (with_reducible exact ih0 _ _ _)
      | (with_reducible exact ih1 _ _ _ _)
      | (with_reducible exact ih2 _ _ _ _ _)
      | (with_reducible exact ih3 _ _ _ _)
      | (with_reducible exact ih4 _ _ _ _)
      | (with_reducible exact LeO.refl _)
      | (with_reducible exact LeO.none _)
      | (with_reducible refine LeO.ite ?_ ?_)
      | (with_reducible refine LeO.bind ?_ (fun _ => ?_))
      | exact ih0 _ _ _
      | exact ih1 _ _ _ _
      | exact ih2 _ _ _ _ _
      | exact ih3 _ _ _ _
      | exact ih4 _ _ _ _
      | exact LeO.none _
      | refine LeO.ite ?_ ?_
      | refine LeO.bind ?_ (fun _ => ?_)
    · intro y0 y1 y2 y3 y4
      unfold pelicanref05_nodes.j1
      repeat' first
      | (with_reducible exact ih0 _ _ _)
      | (with_reducible exact ih1 _ _ _ _)
      | (with_reducible exact ih2 _ _ _ _ _)
      | (with_reducible exact ih3 _ _ _ _)
      | (with_reducible exact ih4 _ _ _ _)
      | (with_reducible exact LeO.refl _)
      | (with_reducible exact LeO.none _)
      | (with_reducible refine LeO.ite ?_ ?_)
      | (with_reducible refine LeO.bind ?_ (fun _ => ?_))
      | exact ih0 _ _ _
      | exact ih1 _ _ _ _
      | exact ih2 _ _ _ _ _
      | exact ih3 _ _ _ _
      | exact ih4 _ _ _ _
      | exact LeO.none _
      | refine LeO.ite ?_ ?_
      | refine LeO.bind ?_ (fun _ => ?_)
    · intro y0 y1 y2 y3
      unfold pelicanref05_nodes.j2
      repeat' first
      | (with_reducible exact ih0 _ _ _)
      | (with_reducible exact ih1 _ _ _ _)
      | (with_reducible exact ih2 _ _ _ _ _)
      | (with_reducible exact ih3 _ _ _ _)
      | (with_reducible exact ih4 _ _ _ _)
      | (with_reducible exact LeO.refl _)
      | (with_reducible exact LeO.none _)
      | (with_reducible refine LeO.ite ?_ ?_)
      | (with_reducible refine LeO.bind ?_ (fun _ => ?_))
      | exact ih0 _ _ _
      | exact ih1 _ _ _ _
      | exact ih2 _ _ _ _ _
      | exact ih3 _ _ _ _
      | exact ih4 _ _ _ _
      | exact LeO.none _
      | refine LeO.ite ?_ ?_
      | refine LeO.bind ?_ (fun _ => ?_)
    · intro y0 y1 y2 y3
      unfold pelicanref05_nodes.l0
      repeat' first
      | (with_reducible exact ih0 _ _ _)
      | (with_reducible exact ih1 _ _ _ _)
      | (with_reducible exact ih2 _ _ _ _ _)
      | (with_reducible exact ih3 _ _ _ _)
      | (with_reducible exact ih4 _ _ _ _)
      | (with_reducible exact LeO.refl _)
      | (with_reducible exact LeO.none _)
      | (with_reducible refine LeO.ite ?_ ?_)
      | (with_reducible refine LeO.bind ?_ (fun _ => ?_))
      | exact ih0 _ _ _
      | exact ih1 _ _ _ _
      | exact ih2 _ _ _ _ _
      | exact ih3 _ _ _ _
      | exact ih4 _ _ _ _
      | exact LeO.none _
      | refine LeO.ite ?_ ?_
      | refine LeO.bind ?_ (fun _ => ?_)
theorem pelicanref05_nodes.mono : ∀ a0 a1 a2 k, LeO (pelicanref05_nodes.f k a0 a1 a2) (pelicanref05_nodes.f (k + 1) a0 a1 a2) := by
  intro a0 a1 a2 k
  obtain ⟨ih0, ih1, ih2, ih3, ih4⟩ := pelicanref05_nodes.mono_l k
  exact ih0 a0 a1 a2
set_option maxHeartbeats 8000000 in
set_option maxRecDepth 100000 in
theorem pelicanref05_nodes.calls (k : Nat) : ∀ (a0_0 : Int) (a0_1 : Int) (A0_2 : Option Addr) (c0_2 : Nat) (l0_2 : List (S24)) (r : Bool) (w : World) (hr0_2 : Kd.C k24 w A0_2 l0_2.length l0_2) (hc0_2 : l0_2.length ≤ c0_2) (h : pelicanref05_nodes.f k a0_0 a0_1 l0_2 = some r),
    Calls Try.prog 49 #[.agg #[.int .i64 a0_0, .int .i64 a0_1, .slice A0_2 l0_2.length c0_2]] w fun e w' => e = .returned (.bool r) ∧ Below w.heap.size w w' := by
  induction k using Nat.strongRecOn with
  | _ k ih =>
  intro a0_0 a0_1 A0_2 c0_2 l0_2 r w hr0_2 hc0_2 h
  cases k with
  | zero => exact absurd h (by simp [pelicanref05_nodes.f])
  | succ k =>
  simp only [pelicanref05_nodes.f] at h
  have hu24 := Try.underlying24
  have HR0_2 := Aside0.mk hr0_2
  have HC0_2 := Aside0.mk hc0_2
  clear hr0_2 hc0_2
  have HB := Aside0.mk (Below.refl w.heap.size w)
  have H : (if a0_0 = 0 then (pelicanref05_nodes.j0 k true a0_0 a0_1 l0_2) else (pelicanref05_nodes.j0 k (a0_0 == 1) a0_0 a0_1 l0_2)) = some r := h
  clear h
  have HC2 := Aside0.mk H
  clear H
  go_enter Try.func49, Try.ntmps49
  go_upto_region 1 with (first | ((with_reducible refine gate_dst (N := 1) rfl ?_); (try (refine gate_guard (by rfl) ?_; dsimp only)); refine box_event ?hg (N := 1) ?hd (cs := #[.int .i64 a0_0, .int .i64 a0_1, .slice A0_2 l0_2.length c0_2]) (t := 24) ?hr ?_; (case hd => rfl); (case hg => rfl); (case hr => first | (go_simp; done) | (go_simp; rfl)); intro gb142 hg w3 hbox hb; have n0_ := Aside0.mk (below_step (by repeat (first | (with_reducible first | exact HB.out | apply below_alloc | apply pw_below_drewN | apply below_drew1) | exact HB.out)) hb); have n1_ := Aside0.mk (hbox); have n2_ := Aside0.mk ((by rw [hg]; exact (below_size (by repeat (first | (with_reducible first | exact HB.out | apply below_alloc | apply pw_below_drewN | apply below_drew1) | exact HB.out))) : w.heap.size ≤ gb142)); have n3_ := Aside0.mk ((by rw [hg]; exact (below_size (by repeat (first | (with_reducible first | exact HB.out | apply below_alloc | apply pw_below_drewN | apply below_drew1) | exact HB.out))) : w.heap.size ≤ gb142)); clear HB; have HB := n0_; have BK142 := n1_; have GW142 := n2_; have GE142 := n3_; clear n0_ n1_ n2_ n3_; clear hb hbox hg))
  (try simp only [Act.put, List.setIfInBounds_toArray, List.set_cons_zero, List.set_cons_succ])
  go_cut [3] (fun v3 wc => ∃ (kq : Nat) (x3_1 : Bool), v3 = .bool x3_1 ∧ Aside0 (pelicanref05_nodes.j0 kq x3_1 a0_0 a0_1 l0_2 = some r) ∧ Aside0 (kq ≤ k) ∧ Aside0 (wc.heap[gb142]? = some (.cells #[.int .i64 a0_0, .int .i64 a0_1, (.slice A0_2 l0_2.length c0_2)] 24 (0, 0))) ∧ Aside0 (Below w.heap.size w wc))
  case first =>
    have H := HC2.out
    clear HC2
    by_cases c4 : a0_0 = 0
    · rw [if_pos c4] at H
      have c4b0 : (a0_0 == 0) = true := beq_iff_eq.mpr c4
      have c4b1 : (a0_0 != 0) = false := bne_eq_false_iff_eq.mpr c4
      clear c4
      (first | rw [c4b0] | (simp only [i64_w, i32_w]; rw [c4b0]) | skip)
      have H' := Aside0.mk H
      clear H
      have hcz5_0 : w3.cell? ⟨gb142, 0, none⟩ = some (.int .i64 a0_0) := (blk_cell BK142.out 0).trans rfl
      have hcz5_1 : w3.cell? ⟨gb142, 1, none⟩ = some (.int .i64 a0_1) := (blk_cell BK142.out 1).trans rfl
      have hcz5_2 : w3.cell? ⟨gb142, 2, none⟩ = some (.slice A0_2 l0_2.length c0_2) := (blk_cell BK142.out 2).trans rfl
      have hfz5_0 := blk_frozen BK142.out 0
      have hfz5_1 := blk_frozen BK142.out 1
      have hfz5_2 := blk_frozen BK142.out 2
      go_wp2
      go_meet
      case rel => exact ⟨_, (true), (by first | rfl | (simp; done) | (simp [*]; done)), H', ⟨by first | omega | exact Nat.le_refl _⟩, ⟨by (with_reducible repeat (first | refine blk_drewN ?_ _ | refine blk_drew ?_ | refine blk_alloc ?_ _)); exact BK142.out⟩, ⟨by repeat (first | (with_reducible first | exact HB.out | apply below_alloc | apply pw_below_drewN | apply below_drew1 | refine below_set ?_ GE142.out) | exact HB.out)⟩⟩
    · rw [if_neg c4] at H
      have c4b0 : (a0_0 == 0) = false := beq_eq_false_iff_ne.mpr c4
      have c4b1 : (a0_0 != 0) = true := bne_iff_ne.mpr c4
      (first | rw [c4b0] | (simp only [i64_w, i32_w]; rw [c4b0]) | skip)
      have H' := Aside0.mk H
      clear H
      have hcz6_0 : w3.cell? ⟨gb142, 0, none⟩ = some (.int .i64 a0_0) := (blk_cell BK142.out 0).trans rfl
      have hcz6_1 : w3.cell? ⟨gb142, 1, none⟩ = some (.int .i64 a0_1) := (blk_cell BK142.out 1).trans rfl
      have hcz6_2 : w3.cell? ⟨gb142, 2, none⟩ = some (.slice A0_2 l0_2.length c0_2) := (blk_cell BK142.out 2).trans rfl
      have hfz6_0 := blk_frozen BK142.out 0
      have hfz6_1 := blk_frozen BK142.out 1
      have hfz6_2 := blk_frozen BK142.out 2
      go_wp2
      go_meet
      case rel => exact ⟨_, ((a0_0 == 1)), (by first | rfl | (simp; done) | (simp [*]; done)), H', ⟨by first | omega | exact Nat.le_refl _⟩, ⟨by (with_reducible repeat (first | refine blk_drewN ?_ _ | refine blk_drew ?_ | refine blk_alloc ?_ _)); exact BK142.out⟩, ⟨by repeat (first | (with_reducible first | exact HB.out | apply below_alloc | apply pw_below_drewN | apply below_drew1 | refine below_set ?_ GE142.out) | exact HB.out)⟩⟩
  case rest =>
    clear HC2
    try clear p2
    try clear c4
    try clear c4b0
    try clear c4b1
    try clear hcz5_0
    try clear hcz5_1
    try clear hcz5_2
    try clear hcz6_0
    try clear hcz6_1
    try clear hcz6_2
    try clear hfz5_0
    try clear hfz5_1
    try clear hfz5_2
    try clear hfz6_0
    try clear hfz6_1
    try clear hfz6_2
    obtain ⟨kq, x3_1, rfl, HA, HJ1, BK142, HB⟩ := hcut
    cases kq with
    | zero => exact absurd HA.out (by simp [pelicanref05_nodes.j0])
    | succ kj1 =>
      have H := HA.out
      clear HA
      simp only [pelicanref05_nodes.j0] at H
      have HC7 := Aside0.mk H
      clear H
      go_upto_region 2 with (fail)
      go_cut [4] (fun v4 wc => ∃ (kq : Nat) (x4_6 : Bool), v4 = .bool x4_6 ∧ Aside0 (pelicanref05_nodes.j1 kq x3_1 x4_6 a0_0 a0_1 l0_2 = some r) ∧ Aside0 (kq ≤ kj1) ∧ Aside0 (wc.heap[gb142]? = some (.cells #[.int .i64 a0_0, .int .i64 a0_1, (.slice A0_2 l0_2.length c0_2)] 24 (0, 0))) ∧ Aside0 (Below w.heap.size w wc))
      case first =>
        have H := HC7.out
        clear HC7
        by_cases c8 : a0_0 = 2
        · rw [if_pos c8] at H
          have c8b0 : (a0_0 == 2) = true := beq_iff_eq.mpr c8
          have c8b1 : (a0_0 != 2) = false := bne_eq_false_iff_eq.mpr c8
          clear c8
          (first | rw [c8b0] | (simp only [i64_w, i32_w]; rw [c8b0]) | skip)
          have H' := Aside0.mk H
          clear H
          have hcz9_0 : wc.cell? ⟨gb142, 0, none⟩ = some (.int .i64 a0_0) := (blk_cell BK142.out 0).trans rfl
          have hcz9_1 : wc.cell? ⟨gb142, 1, none⟩ = some (.int .i64 a0_1) := (blk_cell BK142.out 1).trans rfl
          have hcz9_2 : wc.cell? ⟨gb142, 2, none⟩ = some (.slice A0_2 l0_2.length c0_2) := (blk_cell BK142.out 2).trans rfl
          have hfz9_0 := blk_frozen BK142.out 0
          have hfz9_1 := blk_frozen BK142.out 1
          have hfz9_2 := blk_frozen BK142.out 2
          go_wp2
          go_meet
          case rel => exact ⟨_, (true), (by first | rfl | (simp; done) | (simp [*]; done)), H', ⟨by have := HJ1.out; first | omega | exact Nat.le_refl _⟩, ⟨by (with_reducible repeat (first | refine blk_drewN ?_ _ | refine blk_drew ?_ | refine blk_alloc ?_ _)); exact BK142.out⟩, ⟨by repeat (first | (with_reducible first | exact HB.out | apply below_alloc | apply pw_below_drewN | apply below_drew1 | refine below_set ?_ GE142.out) | exact HB.out)⟩⟩
        · rw [if_neg c8] at H
          have c8b0 : (a0_0 == 2) = false := beq_eq_false_iff_ne.mpr c8
          have c8b1 : (a0_0 != 2) = true := bne_iff_ne.mpr c8
          (first | rw [c8b0] | (simp only [i64_w, i32_w]; rw [c8b0]) | skip)
          have H' := Aside0.mk H
          clear H
          have hcz10_0 : wc.cell? ⟨gb142, 0, none⟩ = some (.int .i64 a0_0) := (blk_cell BK142.out 0).trans rfl
          have hcz10_1 : wc.cell? ⟨gb142, 1, none⟩ = some (.int .i64 a0_1) := (blk_cell BK142.out 1).trans rfl
          have hcz10_2 : wc.cell? ⟨gb142, 2, none⟩ = some (.slice A0_2 l0_2.length c0_2) := (blk_cell BK142.out 2).trans rfl
          have hfz10_0 := blk_frozen BK142.out 0
          have hfz10_1 := blk_frozen BK142.out 1
          have hfz10_2 := blk_frozen BK142.out 2
          go_wp2
          go_meet
          case rel => exact ⟨_, ((a0_0 == 3)), (by first | rfl | (simp; done) | (simp [*]; done)), H', ⟨by have := HJ1.out; first | omega | exact Nat.le_refl _⟩, ⟨by (with_reducible repeat (first | refine blk_drewN ?_ _ | refine blk_drew ?_ | refine blk_alloc ?_ _)); exact BK142.out⟩, ⟨by repeat (first | (with_reducible first | exact HB.out | apply below_alloc | apply pw_below_drewN | apply below_drew1 | refine below_set ?_ GE142.out) | exact HB.out)⟩⟩
      case rest =>
        clear HC7
        try clear p2
        try clear c4
        try clear c4b0
        try clear c4b1
        try clear c8
        try clear c8b0
        try clear c8b1
        try clear hcz10_0
        try clear hcz10_1
        try clear hcz10_2
        try clear hcz5_0
        try clear hcz5_1
        try clear hcz5_2
        try clear hcz6_0
        try clear hcz6_1
        try clear hcz6_2
        try clear hcz9_0
        try clear hcz9_1
        try clear hcz9_2
        try clear hfz10_0
        try clear hfz10_1
        try clear hfz10_2
        try clear hfz5_0
        try clear hfz5_1
        try clear hfz5_2
        try clear hfz6_0
        try clear hfz6_1
        try clear hfz6_2
        try clear hfz9_0
        try clear hfz9_1
        try clear hfz9_2
        try clear p2
        obtain ⟨kq, x4_6, rfl, HA, HJ6, BK142, HB⟩ := hcut
        cases kq with
        | zero => exact absurd HA.out (by simp [pelicanref05_nodes.j1])
        | succ kj6 =>
          have H := HA.out
          clear HA
          simp only [pelicanref05_nodes.j1] at H
          have HC11 := Aside0.mk H
          clear H
          go_upto_region 3 with (fail)
          go_cut [56] (fun v56 wc => ∃ (kq : Nat) (x56_10 : Bool), v56 = .bool x56_10 ∧ Aside0 (pelicanref05_nodes.j2 kq x56_10 a0_0 a0_1 l0_2 = some r) ∧ Aside0 (kq ≤ kj6) ∧ Aside0 (wc.heap[gb142]? = some (.cells #[.int .i64 a0_0, .int .i64 a0_1, (.slice A0_2 l0_2.length c0_2)] 24 (0, 0))) ∧ Aside0 (Below w.heap.size w wc))
          case first =>
            have H := HC11.out
            clear HC11
            by_cases c12 : x3_1 = true
            · subst c12
              have H1 : (if a0_1 < 0 then (pelicanref05_nodes.j2 kj6 true a0_0 a0_1 l0_2) else (if (l0_2.length : Int) = 0 then (if x4_6 = true then (if a0_1 = 0 then (pelicanref05_nodes.j2 kj6 ((l0_2.length : Int) != 2) a0_0 a0_1 l0_2) else (pelicanref05_nodes.j2 kj6 true a0_0 a0_1 l0_2)) else (pelicanref05_nodes.j2 kj6 false a0_0 a0_1 l0_2)) else (pelicanref05_nodes.j2 kj6 true a0_0 a0_1 l0_2))) = some r := by rw [if_pos rfl] at H; exact H
              clear H
              have H := H1
              clear H1
              by_cases c13 : a0_1 < 0
              · rw [if_pos c13] at H
                have c13b0 : decide (a0_1 < 0) = true := decide_eq_true c13
                clear c13
                (first | rw [c13b0] | (simp only [i64_w, i32_w]; rw [c13b0]) | skip)
                have H' := Aside0.mk H
                clear H
                have hcz14_0 : wc.cell? ⟨gb142, 0, none⟩ = some (.int .i64 a0_0) := (blk_cell BK142.out 0).trans rfl
                have hcz14_1 : wc.cell? ⟨gb142, 1, none⟩ = some (.int .i64 a0_1) := (blk_cell BK142.out 1).trans rfl
                have hcz14_2 : wc.cell? ⟨gb142, 2, none⟩ = some (.slice A0_2 l0_2.length c0_2) := (blk_cell BK142.out 2).trans rfl
                have hfz14_0 := blk_frozen BK142.out 0
                have hfz14_1 := blk_frozen BK142.out 1
                have hfz14_2 := blk_frozen BK142.out 2
                go_wp2
                go_meet
                case rel => exact ⟨_, (true), (by first | rfl | (simp; done) | (simp [*]; done)), H', ⟨by have := HJ1.out; have := HJ6.out; first | omega | exact Nat.le_refl _⟩, ⟨by (with_reducible repeat (first | refine blk_drewN ?_ _ | refine blk_drew ?_ | refine blk_alloc ?_ _)); exact BK142.out⟩, ⟨by repeat (first | (with_reducible first | exact HB.out | apply below_alloc | apply pw_below_drewN | apply below_drew1 | refine below_set ?_ GE142.out) | exact HB.out)⟩⟩
              · rw [if_neg c13] at H
                have c13b0 : decide (a0_1 < 0) = false := decide_eq_false c13
                clear c13
                (first | rw [c13b0] | (simp only [i64_w, i32_w]; rw [c13b0]) | skip)
                by_cases c15 : (l0_2.length : Int) = 0
                · rw [if_pos c15] at H
                  have c15b0 : ((l0_2.length : Int) == 0) = true := beq_iff_eq.mpr c15
                  have c15b1 : ((l0_2.length : Int) != 0) = false := bne_eq_false_iff_eq.mpr c15
                  clear c15
                  by_cases c16 : x4_6 = true
                  · subst c16
                    have H1 : (if a0_1 = 0 then (pelicanref05_nodes.j2 kj6 ((l0_2.length : Int) != 2) a0_0 a0_1 l0_2) else (pelicanref05_nodes.j2 kj6 true a0_0 a0_1 l0_2)) = some r := by rw [if_pos rfl] at H; exact H
                    clear H
                    have H := H1
                    clear H1
                    by_cases c17 : a0_1 = 0
                    · rw [if_pos c17] at H
                      have c17b0 : (a0_1 == 0) = true := beq_iff_eq.mpr c17
                      have c17b1 : (a0_1 != 0) = false := bne_eq_false_iff_eq.mpr c17
                      clear c17
                      have H' := Aside0.mk H
                      clear H
                      have hcz18_0 : wc.cell? ⟨gb142, 0, none⟩ = some (.int .i64 a0_0) := (blk_cell BK142.out 0).trans rfl
                      have hcz18_1 : wc.cell? ⟨gb142, 1, none⟩ = some (.int .i64 a0_1) := (blk_cell BK142.out 1).trans rfl
                      have hcz18_2 : wc.cell? ⟨gb142, 2, none⟩ = some (.slice A0_2 l0_2.length c0_2) := (blk_cell BK142.out 2).trans rfl
                      have hfz18_0 := blk_frozen BK142.out 0
                      have hfz18_1 := blk_frozen BK142.out 1
                      have hfz18_2 := blk_frozen BK142.out 2
                      go_wp2
                      go_meet
                      case rel => exact ⟨_, (((l0_2.length : Int) != 2)), (by first | rfl | (simp; done) | (simp [*]; done)), H', ⟨by have := HJ1.out; have := HJ6.out; first | omega | exact Nat.le_refl _⟩, ⟨by (with_reducible repeat (first | refine blk_drewN ?_ _ | refine blk_drew ?_ | refine blk_alloc ?_ _)); exact BK142.out⟩, ⟨by repeat (first | (with_reducible first | exact HB.out | apply below_alloc | apply pw_below_drewN | apply below_drew1 | refine below_set ?_ GE142.out) | exact HB.out)⟩⟩
                    · rw [if_neg c17] at H
                      have c17b0 : (a0_1 == 0) = false := beq_eq_false_iff_ne.mpr c17
                      have c17b1 : (a0_1 != 0) = true := bne_iff_ne.mpr c17
                      have H' := Aside0.mk H
                      clear H
                      have hcz19_0 : wc.cell? ⟨gb142, 0, none⟩ = some (.int .i64 a0_0) := (blk_cell BK142.out 0).trans rfl
                      have hcz19_1 : wc.cell? ⟨gb142, 1, none⟩ = some (.int .i64 a0_1) := (blk_cell BK142.out 1).trans rfl
                      have hcz19_2 : wc.cell? ⟨gb142, 2, none⟩ = some (.slice A0_2 l0_2.length c0_2) := (blk_cell BK142.out 2).trans rfl
                      have hfz19_0 := blk_frozen BK142.out 0
                      have hfz19_1 := blk_frozen BK142.out 1
                      have hfz19_2 := blk_frozen BK142.out 2
                      go_wp2
                      go_meet
                      case rel => exact ⟨_, (true), (by first | rfl | (simp; done) | (simp [*]; done)), H', ⟨by have := HJ1.out; have := HJ6.out; first | omega | exact Nat.le_refl _⟩, ⟨by (with_reducible repeat (first | refine blk_drewN ?_ _ | refine blk_drew ?_ | refine blk_alloc ?_ _)); exact BK142.out⟩, ⟨by repeat (first | (with_reducible first | exact HB.out | apply below_alloc | apply pw_below_drewN | apply below_drew1 | refine below_set ?_ GE142.out) | exact HB.out)⟩⟩
                  · replace c16 := Bool.eq_false_iff.mpr c16
                    subst c16
                    have H1 : (pelicanref05_nodes.j2 kj6 false a0_0 a0_1 l0_2) = some r := by rw [if_neg (show ¬ (false = true) by decide)] at H; exact H
                    clear H
                    have H := H1
                    clear H1
                    have H' := Aside0.mk H
                    clear H
                    have hcz20_0 : wc.cell? ⟨gb142, 0, none⟩ = some (.int .i64 a0_0) := (blk_cell BK142.out 0).trans rfl
                    have hcz20_1 : wc.cell? ⟨gb142, 1, none⟩ = some (.int .i64 a0_1) := (blk_cell BK142.out 1).trans rfl
                    have hcz20_2 : wc.cell? ⟨gb142, 2, none⟩ = some (.slice A0_2 l0_2.length c0_2) := (blk_cell BK142.out 2).trans rfl
                    have hfz20_0 := blk_frozen BK142.out 0
                    have hfz20_1 := blk_frozen BK142.out 1
                    have hfz20_2 := blk_frozen BK142.out 2
                    go_wp2
                    go_meet
                    case rel => exact ⟨_, (false), (by first | rfl | (simp; done) | (simp [*]; done)), H', ⟨by have := HJ1.out; have := HJ6.out; first | omega | exact Nat.le_refl _⟩, ⟨by (with_reducible repeat (first | refine blk_drewN ?_ _ | refine blk_drew ?_ | refine blk_alloc ?_ _)); exact BK142.out⟩, ⟨by repeat (first | (with_reducible first | exact HB.out | apply below_alloc | apply pw_below_drewN | apply below_drew1 | refine below_set ?_ GE142.out) | exact HB.out)⟩⟩
                · rw [if_neg c15] at H
                  have c15b0 : ((l0_2.length : Int) == 0) = false := beq_eq_false_iff_ne.mpr c15
                  have c15b1 : ((l0_2.length : Int) != 0) = true := bne_iff_ne.mpr c15
                  have c15b2 : ¬ (l0_2 = []) := fun h_ => c15 (by rw [h_]; rfl)
                  have H' := Aside0.mk H
                  clear H
                  have hcz21_0 : wc.cell? ⟨gb142, 0, none⟩ = some (.int .i64 a0_0) := (blk_cell BK142.out 0).trans rfl
                  have hcz21_1 : wc.cell? ⟨gb142, 1, none⟩ = some (.int .i64 a0_1) := (blk_cell BK142.out 1).trans rfl
                  have hcz21_2 : wc.cell? ⟨gb142, 2, none⟩ = some (.slice A0_2 l0_2.length c0_2) := (blk_cell BK142.out 2).trans rfl
                  have hfz21_0 := blk_frozen BK142.out 0
                  have hfz21_1 := blk_frozen BK142.out 1
                  have hfz21_2 := blk_frozen BK142.out 2
                  go_wp2
                  go_meet
                  case rel => exact ⟨_, (true), (by first | rfl | (simp; done) | (simp [*]; done)), H', ⟨by have := HJ1.out; have := HJ6.out; first | omega | exact Nat.le_refl _⟩, ⟨by (with_reducible repeat (first | refine blk_drewN ?_ _ | refine blk_drew ?_ | refine blk_alloc ?_ _)); exact BK142.out⟩, ⟨by repeat (first | (with_reducible first | exact HB.out | apply below_alloc | apply pw_below_drewN | apply below_drew1 | refine below_set ?_ GE142.out) | exact HB.out)⟩⟩
            · replace c12 := Bool.eq_false_iff.mpr c12
              subst c12
              have H1 : (if x4_6 = true then (if a0_1 = 0 then (pelicanref05_nodes.j2 kj6 ((l0_2.length : Int) != 2) a0_0 a0_1 l0_2) else (pelicanref05_nodes.j2 kj6 true a0_0 a0_1 l0_2)) else (pelicanref05_nodes.j2 kj6 true a0_0 a0_1 l0_2)) = some r := by rw [if_neg (show ¬ (false = true) by decide)] at H; exact H
              clear H
              have H := H1
              clear H1
              by_cases c22 : x4_6 = true
              · subst c22
                have H1 : (if a0_1 = 0 then (pelicanref05_nodes.j2 kj6 ((l0_2.length : Int) != 2) a0_0 a0_1 l0_2) else (pelicanref05_nodes.j2 kj6 true a0_0 a0_1 l0_2)) = some r := by rw [if_pos rfl] at H; exact H
                clear H
                have H := H1
                clear H1
                by_cases c23 : a0_1 = 0
                · rw [if_pos c23] at H
                  have c23b0 : (a0_1 == 0) = true := beq_iff_eq.mpr c23
                  have c23b1 : (a0_1 != 0) = false := bne_eq_false_iff_eq.mpr c23
                  clear c23
                  have H' := Aside0.mk H
                  clear H
                  have hcz24_0 : wc.cell? ⟨gb142, 0, none⟩ = some (.int .i64 a0_0) := (blk_cell BK142.out 0).trans rfl
                  have hcz24_1 : wc.cell? ⟨gb142, 1, none⟩ = some (.int .i64 a0_1) := (blk_cell BK142.out 1).trans rfl
                  have hcz24_2 : wc.cell? ⟨gb142, 2, none⟩ = some (.slice A0_2 l0_2.length c0_2) := (blk_cell BK142.out 2).trans rfl
                  have hfz24_0 := blk_frozen BK142.out 0
                  have hfz24_1 := blk_frozen BK142.out 1
                  have hfz24_2 := blk_frozen BK142.out 2
                  go_wp2
                  go_meet
                  case rel => exact ⟨_, (((l0_2.length : Int) != 2)), (by first | rfl | (simp; done) | (simp [*]; done)), H', ⟨by have := HJ1.out; have := HJ6.out; first | omega | exact Nat.le_refl _⟩, ⟨by (with_reducible repeat (first | refine blk_drewN ?_ _ | refine blk_drew ?_ | refine blk_alloc ?_ _)); exact BK142.out⟩, ⟨by repeat (first | (with_reducible first | exact HB.out | apply below_alloc | apply pw_below_drewN | apply below_drew1 | refine below_set ?_ GE142.out) | exact HB.out)⟩⟩
                · rw [if_neg c23] at H
                  have c23b0 : (a0_1 == 0) = false := beq_eq_false_iff_ne.mpr c23
                  have c23b1 : (a0_1 != 0) = true := bne_iff_ne.mpr c23
                  have H' := Aside0.mk H
                  clear H
                  have hcz25_0 : wc.cell? ⟨gb142, 0, none⟩ = some (.int .i64 a0_0) := (blk_cell BK142.out 0).trans rfl
                  have hcz25_1 : wc.cell? ⟨gb142, 1, none⟩ = some (.int .i64 a0_1) := (blk_cell BK142.out 1).trans rfl
                  have hcz25_2 : wc.cell? ⟨gb142, 2, none⟩ = some (.slice A0_2 l0_2.length c0_2) := (blk_cell BK142.out 2).trans rfl
                  have hfz25_0 := blk_frozen BK142.out 0
                  have hfz25_1 := blk_frozen BK142.out 1
                  have hfz25_2 := blk_frozen BK142.out 2
                  go_wp2
                  go_meet
                  case rel => exact ⟨_, (true), (by first | rfl | (simp; done) | (simp [*]; done)), H', ⟨by have := HJ1.out; have := HJ6.out; first | omega | exact Nat.le_refl _⟩, ⟨by (with_reducible repeat (first | refine blk_drewN ?_ _ | refine blk_drew ?_ | refine blk_alloc ?_ _)); exact BK142.out⟩, ⟨by repeat (first | (with_reducible first | exact HB.out | apply below_alloc | apply pw_below_drewN | apply below_drew1 | refine below_set ?_ GE142.out) | exact HB.out)⟩⟩
              · replace c22 := Bool.eq_false_iff.mpr c22
                subst c22
                have H1 : (pelicanref05_nodes.j2 kj6 true a0_0 a0_1 l0_2) = some r := by rw [if_neg (show ¬ (false = true) by decide)] at H; exact H
                clear H
                have H := H1
                clear H1
                have H' := Aside0.mk H
                clear H
                go_wp2
                go_meet
                case rel => exact ⟨_, (true), (by first | rfl | (simp; done) | (simp [*]; done)), H', ⟨by have := HJ1.out; have := HJ6.out; first | omega | exact Nat.le_refl _⟩, ⟨by (with_reducible repeat (first | refine blk_drewN ?_ _ | refine blk_drew ?_ | refine blk_alloc ?_ _)); exact BK142.out⟩, ⟨by repeat (first | (with_reducible first | exact HB.out | apply below_alloc | apply pw_below_drewN | apply below_drew1 | refine below_set ?_ GE142.out) | exact HB.out)⟩⟩
          case rest =>
            clear HC11
            try clear c1
            try clear c2
            try clear p2
            try clear c4
            try clear c4b0
            try clear c4b1
            try clear c8
            try clear c8b0
            try clear c8b1
            try clear c12
            try clear c13
            try clear c13b0
            try clear c15
            try clear c15b0
            try clear c15b1
            try clear c15b2
            try clear c16
            try clear c17
            try clear c17b0
            try clear c17b1
            try clear c22
            try clear c23
            try clear c23b0
            try clear c23b1
            try clear hcz10_0
            try clear hcz10_1
            try clear hcz10_2
            try clear hcz14_0
            try clear hcz14_1
            try clear hcz14_2
            try clear hcz18_0
            try clear hcz18_1
            try clear hcz18_2
            try clear hcz19_0
            try clear hcz19_1
            try clear hcz19_2
            try clear hcz20_0
            try clear hcz20_1
            try clear hcz20_2
            try clear hcz21_0
            try clear hcz21_1
            try clear hcz21_2
            try clear hcz24_0
            try clear hcz24_1
            try clear hcz24_2
            try clear hcz25_0
            try clear hcz25_1
            try clear hcz25_2
            try clear hcz5_0
            try clear hcz5_1
            try clear hcz5_2
            try clear hcz6_0
            try clear hcz6_1
            try clear hcz6_2
            try clear hcz9_0
            try clear hcz9_1
            try clear hcz9_2
            try clear hfz10_0
            try clear hfz10_1
            try clear hfz10_2
            try clear hfz14_0
            try clear hfz14_1
            try clear hfz14_2
            try clear hfz18_0
            try clear hfz18_1
            try clear hfz18_2
            try clear hfz19_0
            try clear hfz19_1
            try clear hfz19_2
            try clear hfz20_0
            try clear hfz20_1
            try clear hfz20_2
            try clear hfz21_0
            try clear hfz21_1
            try clear hfz21_2
            try clear hfz24_0
            try clear hfz24_1
            try clear hfz24_2
            try clear hfz25_0
            try clear hfz25_1
            try clear hfz25_2
            try clear hfz5_0
            try clear hfz5_1
            try clear hfz5_2
            try clear hfz6_0
            try clear hfz6_1
            try clear hfz6_2
            try clear hfz9_0
            try clear hfz9_1
            try clear hfz9_2
            try clear p2
            obtain ⟨kq, x56_10, rfl, HA, HJ10, BK142, HB⟩ := hcut
            cases kq with
            | zero => exact absurd HA.out (by simp [pelicanref05_nodes.j2])
            | succ kj10 =>
              have H := HA.out
              clear HA
              simp only [pelicanref05_nodes.j2] at H
              by_cases c26 : x56_10 = true
              · subst c26
                have H1 : (some false) = some r := by rw [if_pos rfl] at H; exact H
                clear H
                have H := H1
                clear H1
                obtain rfl := Option.some.inj H
                go_wp2
                go_ret
                exact ⟨by first | rfl | (simp [errW_none, errW_some] <;> rfl) | (simp [*, errW_none, errW_some] <;> rfl), by repeat (first | (with_reducible first | exact HB.out | apply below_alloc | apply pw_below_drewN | apply below_drew1 | refine below_set ?_ GE142.out) | exact HB.out)⟩
              · replace c26 := Bool.eq_false_iff.mpr c26
                subst c26
                have H1 : (pelicanref05_nodes.l0 kj10 0 a0_0 a0_1 l0_2) = some r := by rw [if_neg (show ¬ (false = true) by decide)] at H; exact H
                clear H
                have H := H1
                clear H1
                have H' := Aside0.mk H
                clear H
                go_wp2
                go_loopg [5] kj10 (fun kq v5 w' => ∃ (x5_4 : Int), v5 = .int .i64 x5_4 ∧ Aside0 (pelicanref05_nodes.l0 kq x5_4 a0_0 a0_1 l0_2 = some r) ∧ Aside0 (kq ≤ kj10) ∧ Aside0 (w'.heap[gb142]? = some (.cells #[.int .i64 a0_0, .int .i64 a0_1, (.slice A0_2 l0_2.length c0_2)] 24 (0, 0))) ∧ Aside0 (Below w.heap.size w w'))
                case atStart => exact ⟨(0), (by first | rfl | (simp; done) | (simp [*]; done)), H', ⟨Nat.le_refl _⟩, ⟨by (with_reducible repeat (first | refine blk_drewN ?_ _ | refine blk_drew ?_ | refine blk_alloc ?_ _)); exact BK142.out⟩, ⟨by repeat (first | (with_reducible first | exact HB.out | apply below_alloc | apply pw_below_drewN | apply below_drew1 | refine below_set ?_ GE142.out) | exact HB.out)⟩⟩
                case round =>
                  clear H'
                  try clear c1
                  try clear c2
                  try clear p2
                  try clear c4
                  try clear c4b0
                  try clear c4b1
                  try clear c8
                  try clear c8b0
                  try clear c8b1
                  try clear c12
                  try clear c13
                  try clear c13b0
                  try clear c15
                  try clear c15b0
                  try clear c15b1
                  try clear c15b2
                  try clear c16
                  try clear c17
                  try clear c17b0
                  try clear c17b1
                  try clear c22
                  try clear c23
                  try clear c23b0
                  try clear c23b1
                  try clear c26
                  try clear hcz10_0
                  try clear hcz10_1
                  try clear hcz10_2
                  try clear hcz14_0
                  try clear hcz14_1
                  try clear hcz14_2
                  try clear hcz18_0
                  try clear hcz18_1
                  try clear hcz18_2
                  try clear hcz19_0
                  try clear hcz19_1
                  try clear hcz19_2
                  try clear hcz20_0
                  try clear hcz20_1
                  try clear hcz20_2
                  try clear hcz21_0
                  try clear hcz21_1
                  try clear hcz21_2
                  try clear hcz24_0
                  try clear hcz24_1
                  try clear hcz24_2
                  try clear hcz25_0
                  try clear hcz25_1
                  try clear hcz25_2
                  try clear hcz5_0
                  try clear hcz5_1
                  try clear hcz5_2
                  try clear hcz6_0
                  try clear hcz6_1
                  try clear hcz6_2
                  try clear hcz9_0
                  try clear hcz9_1
                  try clear hcz9_2
                  try clear hfz10_0
                  try clear hfz10_1
                  try clear hfz10_2
                  try clear hfz14_0
                  try clear hfz14_1
                  try clear hfz14_2
                  try clear hfz18_0
                  try clear hfz18_1
                  try clear hfz18_2
                  try clear hfz19_0
                  try clear hfz19_1
                  try clear hfz19_2
                  try clear hfz20_0
                  try clear hfz20_1
                  try clear hfz20_2
                  try clear hfz21_0
                  try clear hfz21_1
                  try clear hfz21_2
                  try clear hfz24_0
                  try clear hfz24_1
                  try clear hfz24_2
                  try clear hfz25_0
                  try clear hfz25_1
                  try clear hfz25_2
                  try clear hfz5_0
                  try clear hfz5_1
                  try clear hfz5_2
                  try clear hfz6_0
                  try clear hfz6_1
                  try clear hfz6_2
                  try clear hfz9_0
                  try clear hfz9_1
                  try clear hfz9_2
                  try clear p2
                  obtain ⟨x5_4, rfl, HA, HK4, BK142, HB⟩ := hrel
                  cases gk with
                  | zero => exact absurd HA.out (by simp [pelicanref05_nodes.l0])
                  | succ k4 =>
                    have H := HA.out
                    clear HA
                    simp only [pelicanref05_nodes.l0] at H
                    by_cases c27 : x5_4 < (l0_2.length : Int)
                    · rw [if_pos c27] at H
                      have c27b0 : decide (x5_4 < (l0_2.length : Int)) = true := decide_eq_true c27
                      clear c27
                      by_cases c28 : 0 ≤ x5_4
                      · rw [if_pos c28] at H
                        have c28b0 : decide (0 ≤ x5_4) = true := decide_eq_true c28
                        clear c28
                        replace H := Option.bind_eq_some_iff.mp H
                        obtain ⟨t144, A290, H⟩ := H
                        replace H : (if t144 = true then (pelicanref05_nodes.l0 k4 (wrap64 (x5_4 + 1)) a0_0 a0_1 l0_2) else (some false)) = some r := H
                        have A29 := Aside0.mk A290
                        clear A290
                        by_cases c30 : t144 = true
                        · subst c30
                          have H1 : (pelicanref05_nodes.l0 k4 (wrap64 (x5_4 + 1)) a0_0 a0_1 l0_2) = some r := by rw [if_pos rfl] at H; exact H
                          clear H
                          have H := H1
                          clear H1
                          have H' := Aside0.mk H
                          clear H
                          have hcz31_0 : wr.cell? ⟨gb142, 0, none⟩ = some (.int .i64 a0_0) := (blk_cell BK142.out 0).trans rfl
                          have hcz31_1 : wr.cell? ⟨gb142, 1, none⟩ = some (.int .i64 a0_1) := (blk_cell BK142.out 1).trans rfl
                          have hcz31_2 : wr.cell? ⟨gb142, 2, none⟩ = some (.slice A0_2 l0_2.length c0_2) := (blk_cell BK142.out 2).trans rfl
                          have hfz31_0 := blk_frozen BK142.out 0
                          have hfz31_1 := blk_frozen BK142.out 1
                          have hfz31_2 := blk_frozen BK142.out 2
                          have p143 : 0 ≤ (x5_4 : Int) := of_decide_eq_true (by first | (with_reducible assumption) | assumption)
                          have q143 : x5_4 < (l0_2.length : Int) := of_decide_eq_true (by first | (with_reducible assumption) | assumption)
                          obtain ⟨ad143, A143_2, c143_2, e143, hx143_0, hx143_1, hx143_2, hl143_2, hi143_2⟩ := at_T24 HR0_2.out x5_4 p143 q143
                          cases e143
                          replace hx143_0 := (HB.out.cell (World.block_lt_of_cell? w _ hx143_0)).trans hx143_0
                          replace hx143_1 := (HB.out.cell (World.block_lt_of_cell? w _ hx143_1)).trans hx143_1
                          replace hx143_2 := (HB.out.cell (World.block_lt_of_cell? w _ hx143_2)).trans hx143_2
                          have HR143_2 := Aside0.mk hi143_2
                          have HC143_2 := Aside0.mk hl143_2
                          clear hi143_2 hl143_2
                          replace p143 := eq_true p143
                          replace q143 := eq_true q143
                          go_wp2_with (first | ((with_reducible refine gate_callee (f := 49) rfl ?_); refine goesL_ (some 69) rfl rfl Try.func49 (by kernel_rfl) rfl #[.agg #[.int .i64 ((rd_T24 l0_2 x5_4).f0), .int .i64 ((rd_T24 l0_2 x5_4).f1), .slice A143_2 ((rd_T24 l0_2 x5_4).f2).length c143_2]] rfl (by (try simp only [List.map_toArray, List.map_cons, List.map_nil]); first | done | rfl | (simp only [List.length_drop, List.length_take]; rfl)) ?_; (with_reducible refine (ih k4 (by have := HJ1.out; have := HJ6.out; have := HJ10.out; have := HK4.out; omega) ((rd_T24 l0_2 x5_4).f0) ((rd_T24 l0_2 x5_4).f1) _ _ ((rd_T24 l0_2 x5_4).f2) true _ ?side1 ?side2 A29.out).mono ?_); (case side1 => repeat (first | exact (Kd.C_below HR143_2.out HB.out) | (with_reducible refine Kd.C_alloc ?_ _) | (with_reducible refine Kd.C_drewN ?_ _) | (with_reducible refine Kd.C_drew ?_))); (case side2 => exact HC143_2.out); rintro e w32 ⟨rfl, hb⟩; refine ⟨_, rfl, ?_⟩; have n0_ := Aside0.mk (blk_below (g := gb142) (o := .cells #[.int .i64 a0_0, .int .i64 a0_1, .slice (some ad143) l0_2.length c0_2] 24 (0, 0)) (by (with_reducible repeat (first | refine blk_drewN ?_ _ | refine blk_drew ?_ | refine blk_alloc ?_ _)); exact BK142.out) hb); have n1_ := Aside0.mk (below_step (by repeat (first | (with_reducible first | exact HB.out | apply below_alloc | apply pw_below_drewN | apply below_drew1 | refine below_set ?_ GE142.out) | exact HB.out)) hb); clear BK142; clear HB; have BK142 := n0_; have HB := n1_; clear n0_ n1_; (try clear hb); (try clear hb2); (try clear hk); (try clear hi)))
                          go_roundg k4
                          case measure => have := HJ1.out; have := HJ6.out; have := HJ10.out; have := HK4.out; omega
                          case rel => exact ⟨(wrap64 (x5_4 + 1)), (by first | rfl | (simp; done) | (simp [*]; done)), H', ⟨by have := HJ1.out; have := HJ6.out; have := HJ10.out; have := HK4.out; omega⟩, ⟨by (with_reducible repeat (first | refine blk_drewN ?_ _ | refine blk_drew ?_ | refine blk_alloc ?_ _)); exact BK142.out⟩, ⟨by repeat (first | (with_reducible first | exact HB.out | apply below_alloc | apply pw_below_drewN | apply below_drew1 | refine below_set ?_ GE142.out) | exact HB.out)⟩⟩
                        · replace c30 := Bool.eq_false_iff.mpr c30
                          subst c30
                          have H1 : (some false) = some r := by rw [if_neg (show ¬ (false = true) by decide)] at H; exact H
                          clear H
                          have H := H1
                          clear H1
                          obtain rfl := Option.some.inj H
                          have hcz33_0 : wr.cell? ⟨gb142, 0, none⟩ = some (.int .i64 a0_0) := (blk_cell BK142.out 0).trans rfl
                          have hcz33_1 : wr.cell? ⟨gb142, 1, none⟩ = some (.int .i64 a0_1) := (blk_cell BK142.out 1).trans rfl
                          have hcz33_2 : wr.cell? ⟨gb142, 2, none⟩ = some (.slice A0_2 l0_2.length c0_2) := (blk_cell BK142.out 2).trans rfl
                          have hfz33_0 := blk_frozen BK142.out 0
                          have hfz33_1 := blk_frozen BK142.out 1
                          have hfz33_2 := blk_frozen BK142.out 2
                          have p143 : 0 ≤ (x5_4 : Int) := of_decide_eq_true (by first | (with_reducible assumption) | assumption)
                          have q143 : x5_4 < (l0_2.length : Int) := of_decide_eq_true (by first | (with_reducible assumption) | assumption)
                          obtain ⟨ad143, A143_2, c143_2, e143, hx143_0, hx143_1, hx143_2, hl143_2, hi143_2⟩ := at_T24 HR0_2.out x5_4 p143 q143
                          cases e143
                          replace hx143_0 := (HB.out.cell (World.block_lt_of_cell? w _ hx143_0)).trans hx143_0
                          replace hx143_1 := (HB.out.cell (World.block_lt_of_cell? w _ hx143_1)).trans hx143_1
                          replace hx143_2 := (HB.out.cell (World.block_lt_of_cell? w _ hx143_2)).trans hx143_2
                          have HR143_2 := Aside0.mk hi143_2
                          have HC143_2 := Aside0.mk hl143_2
                          clear hi143_2 hl143_2
                          replace p143 := eq_true p143
                          replace q143 := eq_true q143
                          go_wp2_with (first | ((with_reducible refine gate_callee (f := 49) rfl ?_); refine goesL_ (some 69) rfl rfl Try.func49 (by kernel_rfl) rfl #[.agg #[.int .i64 ((rd_T24 l0_2 x5_4).f0), .int .i64 ((rd_T24 l0_2 x5_4).f1), .slice A143_2 ((rd_T24 l0_2 x5_4).f2).length c143_2]] rfl (by (try simp only [List.map_toArray, List.map_cons, List.map_nil]); first | done | rfl | (simp only [List.length_drop, List.length_take]; rfl)) ?_; (with_reducible refine (ih k4 (by have := HJ1.out; have := HJ6.out; have := HJ10.out; have := HK4.out; omega) ((rd_T24 l0_2 x5_4).f0) ((rd_T24 l0_2 x5_4).f1) _ _ ((rd_T24 l0_2 x5_4).f2) false _ ?side1 ?side2 A29.out).mono ?_); (case side1 => repeat (first | exact (Kd.C_below HR143_2.out HB.out) | (with_reducible refine Kd.C_alloc ?_ _) | (with_reducible refine Kd.C_drewN ?_ _) | (with_reducible refine Kd.C_drew ?_))); (case side2 => exact HC143_2.out); rintro e w34 ⟨rfl, hb⟩; refine ⟨_, rfl, ?_⟩; have n0_ := Aside0.mk (blk_below (g := gb142) (o := .cells #[.int .i64 a0_0, .int .i64 a0_1, .slice (some ad143) l0_2.length c0_2] 24 (0, 0)) (by (with_reducible repeat (first | refine blk_drewN ?_ _ | refine blk_drew ?_ | refine blk_alloc ?_ _)); exact BK142.out) hb); have n1_ := Aside0.mk (below_step (by repeat (first | (with_reducible first | exact HB.out | apply below_alloc | apply pw_below_drewN | apply below_drew1 | refine below_set ?_ GE142.out) | exact HB.out)) hb); clear BK142; clear HB; have BK142 := n0_; have HB := n1_; clear n0_ n1_; (try clear hb); (try clear hb2); (try clear hk); (try clear hi)))
                          go_ret
                          exact ⟨by first | rfl | (simp [errW_none, errW_some] <;> rfl) | (simp [*, errW_none, errW_some] <;> rfl), by repeat (first | (with_reducible first | exact HB.out | apply below_alloc | apply pw_below_drewN | apply below_drew1 | refine below_set ?_ GE142.out) | exact HB.out)⟩
                      · rw [if_neg c28] at H
                        exact absurd H (by simp)
                    · rw [if_neg c27] at H
                      have c27b0 : decide (x5_4 < (l0_2.length : Int)) = false := decide_eq_false c27
                      clear c27
                      obtain rfl := Option.some.inj H
                      have hcz35_0 : wr.cell? ⟨gb142, 0, none⟩ = some (.int .i64 a0_0) := (blk_cell BK142.out 0).trans rfl
                      have hcz35_1 : wr.cell? ⟨gb142, 1, none⟩ = some (.int .i64 a0_1) := (blk_cell BK142.out 1).trans rfl
                      have hcz35_2 : wr.cell? ⟨gb142, 2, none⟩ = some (.slice A0_2 l0_2.length c0_2) := (blk_cell BK142.out 2).trans rfl
                      have hfz35_0 := blk_frozen BK142.out 0
                      have hfz35_1 := blk_frozen BK142.out 1
                      have hfz35_2 := blk_frozen BK142.out 2
                      go_wp2
                      go_ret
                      exact ⟨by first | rfl | (simp [errW_none, errW_some] <;> rfl) | (simp [*, errW_none, errW_some] <;> rfl), by repeat (first | (with_reducible first | exact HB.out | apply below_alloc | apply pw_below_drewN | apply below_drew1 | refine below_set ?_ GE142.out) | exact HB.out)⟩

/-! ### pelicanref05_Size: function 50 -/
mutual
def pelicanref05_Size.l0 : Nat → Int → Int → Int → Int → List (S24) → Option (Int)
  | 0, _, _, _, _, _ => none
  | k + 1, x3, x4, x146000, x146001, x146002 => if x4 < (x146002.length : Int) then (if 0 ≤ x4 then ((pelicanref05_Size.f k ((rd_T24 x146002 x4).f0) ((rd_T24 x146002 x4).f1) ((rd_T24 x146002 x4).f2)).bind fun t147 => (pelicanref05_Size.l0 k (wrap64 (x3 + t147)) (wrap64 (x4 + 1)) x146000 x146001 x146002)) else (none)) else (some x3)
def pelicanref05_Size.f : Nat → Int → Int → List (S24) → Option (Int)
  | 0, _, _, _ => none
  | k + 1, a0_0, a0_1, l0_2 => pelicanref05_Size.l0 k 1 0 a0_0 a0_1 l0_2
end
theorem pelicanref05_Size.mono_l : ∀ k, (∀ y0 y1 y2, LeO (pelicanref05_Size.f k y0 y1 y2) (pelicanref05_Size.f (k + 1) y0 y1 y2)) ∧ (∀ y0 y1 y2 y3 y4, LeO (pelicanref05_Size.l0 k y0 y1 y2 y3 y4) (pelicanref05_Size.l0 (k + 1) y0 y1 y2 y3 y4))
  | 0 => ⟨fun _ _ _ r h => by simp [pelicanref05_Size.f] at h, fun _ _ _ _ _ r h => by simp [pelicanref05_Size.l0] at h⟩
  | k + 1 => by
    obtain ⟨ih0, ih1⟩ := pelicanref05_Size.mono_l k
    refine ⟨?_, ?_⟩
    · intro y0 y1 y2
      unfold pelicanref05_Size.f
      repeat' first
      | (with_reducible exact ih0 _ _ _)
      | (with_reducible exact ih1 _ _ _ _ _)
      | (with_reducible exact LeO.refl _)
      | (with_reducible exact LeO.none _)
      | (with_reducible refine LeO.ite ?_ ?_)
      | (with_reducible refine LeO.bind ?_ (fun _ => ?_))
      | exact ih0 _ _ _
      | exact ih1 _ _ _ _ _
      | exact LeO.none _
      | refine LeO.ite ?_ ?_
      | refine LeO.bind ?_ (fun _ => ?_)
    · intro y0 y1 y2 y3 y4
      unfold pelicanref05_Size.l0
      repeat' first
      | (with_reducible exact ih0 _ _ _)
      | (with_reducible exact ih1 _ _ _ _ _)
      | (with_reducible exact LeO.refl _)
      | (with_reducible exact LeO.none _)
      | (with_reducible refine LeO.ite ?_ ?_)
      | (with_reducible refine LeO.bind ?_ (fun _ => ?_))
      | exact ih0 _ _ _
      | exact ih1 _ _ _ _ _
      | exact LeO.none _
      | refine LeO.ite ?_ ?_
      | refine LeO.bind ?_ (fun _ => ?_)
theorem pelicanref05_Size.mono : ∀ a0 a1 a2 k, LeO (pelicanref05_Size.f k a0 a1 a2) (pelicanref05_Size.f (k + 1) a0 a1 a2) := by
  intro a0 a1 a2 k
  obtain ⟨ih0, ih1⟩ := pelicanref05_Size.mono_l k
  exact ih0 a0 a1 a2
set_option maxHeartbeats 8000000 in
set_option maxRecDepth 100000 in
theorem pelicanref05_Size.calls (k : Nat) : ∀ (a0_0 : Int) (a0_1 : Int) (A0_2 : Option Addr) (c0_2 : Nat) (l0_2 : List (S24)) (r : Int) (w : World) (hr0_2 : Kd.C k24 w A0_2 l0_2.length l0_2) (hc0_2 : l0_2.length ≤ c0_2) (h : pelicanref05_Size.f k a0_0 a0_1 l0_2 = some r),
    Calls Try.prog 50 #[.agg #[.int .i64 a0_0, .int .i64 a0_1, .slice A0_2 l0_2.length c0_2]] w fun e w' => e = .returned (.int .i64 r) ∧ Below w.heap.size w w' := by
  induction k using Nat.strongRecOn with
  | _ k ih =>
  intro a0_0 a0_1 A0_2 c0_2 l0_2 r w hr0_2 hc0_2 h
  cases k with
  | zero => exact absurd h (by simp [pelicanref05_Size.f])
  | succ k =>
  simp only [pelicanref05_Size.f] at h
  have hu24 := Try.underlying24
  have HR0_2 := Aside0.mk hr0_2
  have HC0_2 := Aside0.mk hc0_2
  clear hr0_2 hc0_2
  have HB := Aside0.mk (Below.refl w.heap.size w)
  have H : (pelicanref05_Size.l0 k 1 0 a0_0 a0_1 l0_2) = some r := h
  clear h
  have H' := Aside0.mk H
  clear H
  go_enter Try.func50, Try.ntmps50
  go_wp2_with (first | ((with_reducible refine gate_dst (N := 1) rfl ?_); refine box_event ?hg (N := 1) ?hd (cs := #[.int .i64 a0_0, .int .i64 a0_1, .slice A0_2 l0_2.length c0_2]) (t := 24) ?hr ?_; (case hd => rfl); (case hg => rfl); (case hr => first | (go_simp; done) | (go_simp; rfl)); intro gb145 hg w2 hbox hb; have n0_ := Aside0.mk (below_step (by repeat (first | (with_reducible first | exact HB.out | apply below_alloc | apply pw_below_drewN | apply below_drew1) | exact HB.out)) hb); have n1_ := Aside0.mk (hbox); have n2_ := Aside0.mk ((by rw [hg]; exact (below_size (by repeat (first | (with_reducible first | exact HB.out | apply below_alloc | apply pw_below_drewN | apply below_drew1) | exact HB.out))) : w.heap.size ≤ gb145)); have n3_ := Aside0.mk ((by rw [hg]; exact (below_size (by repeat (first | (with_reducible first | exact HB.out | apply below_alloc | apply pw_below_drewN | apply below_drew1) | exact HB.out))) : w.heap.size ≤ gb145)); clear HB; have HB := n0_; have BK145 := n1_; have GW145 := n2_; have GE145 := n3_; clear n0_ n1_ n2_ n3_; clear hb hbox hg))
  go_loopg [3, 4] k (fun kq v3 v4 w' => ∃ (x3_1 : Int) (x4_1 : Int), v3 = .int .i64 x3_1 ∧ v4 = .int .i64 x4_1 ∧ Aside0 (pelicanref05_Size.l0 kq x3_1 x4_1 a0_0 a0_1 l0_2 = some r) ∧ Aside0 (kq ≤ k) ∧ Aside0 (w'.heap[gb145]? = some (.cells #[.int .i64 a0_0, .int .i64 a0_1, (.slice A0_2 l0_2.length c0_2)] 24 (0, 0))) ∧ Aside0 (Below w.heap.size w w'))
  case atStart => exact ⟨(1), (0), (by first | rfl | (simp; done) | (simp [*]; done)), (by first | rfl | (simp; done) | (simp [*]; done)), H', ⟨Nat.le_refl _⟩, ⟨by (with_reducible repeat (first | refine blk_drewN ?_ _ | refine blk_drew ?_ | refine blk_alloc ?_ _)); exact BK145.out⟩, ⟨by repeat (first | (with_reducible first | exact HB.out | apply below_alloc | apply pw_below_drewN | apply below_drew1 | refine below_set ?_ GE145.out) | exact HB.out)⟩⟩
  case round =>
    clear H'
    try clear p2
    obtain ⟨x3_1, x4_1, rfl, rfl, HA, HK1, BK145, HB⟩ := hrel
    cases gk with
    | zero => exact absurd HA.out (by simp [pelicanref05_Size.l0])
    | succ k1 =>
      have H := HA.out
      clear HA
      simp only [pelicanref05_Size.l0] at H
      by_cases c3 : x4_1 < (l0_2.length : Int)
      · rw [if_pos c3] at H
        have c3b0 : decide (x4_1 < (l0_2.length : Int)) = true := decide_eq_true c3
        clear c3
        by_cases c4 : 0 ≤ x4_1
        · rw [if_pos c4] at H
          have c4b0 : decide (0 ≤ x4_1) = true := decide_eq_true c4
          clear c4
          replace H := Option.bind_eq_some_iff.mp H
          obtain ⟨t147, A50, H⟩ := H
          replace H : (pelicanref05_Size.l0 k1 (wrap64 (x3_1 + t147)) (wrap64 (x4_1 + 1)) a0_0 a0_1 l0_2) = some r := H
          have A5 := Aside0.mk A50
          clear A50
          have H' := Aside0.mk H
          clear H
          have hcz6_0 : wr.cell? ⟨gb145, 0, none⟩ = some (.int .i64 a0_0) := (blk_cell BK145.out 0).trans rfl
          have hcz6_1 : wr.cell? ⟨gb145, 1, none⟩ = some (.int .i64 a0_1) := (blk_cell BK145.out 1).trans rfl
          have hcz6_2 : wr.cell? ⟨gb145, 2, none⟩ = some (.slice A0_2 l0_2.length c0_2) := (blk_cell BK145.out 2).trans rfl
          have hfz6_0 := blk_frozen BK145.out 0
          have hfz6_1 := blk_frozen BK145.out 1
          have hfz6_2 := blk_frozen BK145.out 2
          have p146 : 0 ≤ (x4_1 : Int) := of_decide_eq_true (by first | (with_reducible assumption) | assumption)
          have q146 : x4_1 < (l0_2.length : Int) := of_decide_eq_true (by first | (with_reducible assumption) | assumption)
          obtain ⟨ad146, A146_2, c146_2, e146, hx146_0, hx146_1, hx146_2, hl146_2, hi146_2⟩ := at_T24 HR0_2.out x4_1 p146 q146
          cases e146
          replace hx146_0 := (HB.out.cell (World.block_lt_of_cell? w _ hx146_0)).trans hx146_0
          replace hx146_1 := (HB.out.cell (World.block_lt_of_cell? w _ hx146_1)).trans hx146_1
          replace hx146_2 := (HB.out.cell (World.block_lt_of_cell? w _ hx146_2)).trans hx146_2
          have HR146_2 := Aside0.mk hi146_2
          have HC146_2 := Aside0.mk hl146_2
          clear hi146_2 hl146_2
          replace p146 := eq_true p146
          replace q146 := eq_true q146
          go_wp2_with (first | ((with_reducible refine gate_callee (f := 50) rfl ?_); refine goesL_ (some 18) rfl rfl Try.func50 (by kernel_rfl) rfl #[.agg #[.int .i64 ((rd_T24 l0_2 x4_1).f0), .int .i64 ((rd_T24 l0_2 x4_1).f1), .slice A146_2 ((rd_T24 l0_2 x4_1).f2).length c146_2]] rfl (by (try simp only [List.map_toArray, List.map_cons, List.map_nil]); first | done | rfl | (simp only [List.length_drop, List.length_take]; rfl)) ?_; (with_reducible refine (ih k1 (by have := HK1.out; omega) ((rd_T24 l0_2 x4_1).f0) ((rd_T24 l0_2 x4_1).f1) _ _ ((rd_T24 l0_2 x4_1).f2) t147 _ ?side1 ?side2 A5.out).mono ?_); (case side1 => repeat (first | exact (Kd.C_below HR146_2.out HB.out) | (with_reducible refine Kd.C_alloc ?_ _) | (with_reducible refine Kd.C_drewN ?_ _) | (with_reducible refine Kd.C_drew ?_))); (case side2 => exact HC146_2.out); rintro e w7 ⟨rfl, hb⟩; refine ⟨_, rfl, ?_⟩; have n0_ := Aside0.mk (blk_below (g := gb145) (o := .cells #[.int .i64 a0_0, .int .i64 a0_1, .slice (some ad146) l0_2.length c0_2] 24 (0, 0)) (by (with_reducible repeat (first | refine blk_drewN ?_ _ | refine blk_drew ?_ | refine blk_alloc ?_ _)); exact BK145.out) hb); have n1_ := Aside0.mk (below_step (by repeat (first | (with_reducible first | exact HB.out | apply below_alloc | apply pw_below_drewN | apply below_drew1 | refine below_set ?_ GE145.out) | exact HB.out)) hb); clear BK145; clear HB; have BK145 := n0_; have HB := n1_; clear n0_ n1_; (try clear hb); (try clear hb2); (try clear hk); (try clear hi)))
          go_roundg k1
          case measure => have := HK1.out; omega
          case rel => exact ⟨(wrap64 (x3_1 + t147)), (wrap64 (x4_1 + 1)), (by first | rfl | (simp; done) | (simp [*]; done)), (by first | rfl | (simp; done) | (simp [*]; done)), H', ⟨by have := HK1.out; omega⟩, ⟨by (with_reducible repeat (first | refine blk_drewN ?_ _ | refine blk_drew ?_ | refine blk_alloc ?_ _)); exact BK145.out⟩, ⟨by repeat (first | (with_reducible first | exact HB.out | apply below_alloc | apply pw_below_drewN | apply below_drew1 | refine below_set ?_ GE145.out) | exact HB.out)⟩⟩
        · rw [if_neg c4] at H
          exact absurd H (by simp)
      · rw [if_neg c3] at H
        have c3b0 : decide (x4_1 < (l0_2.length : Int)) = false := decide_eq_false c3
        clear c3
        obtain rfl := Option.some.inj H
        have hcz8_0 : wr.cell? ⟨gb145, 0, none⟩ = some (.int .i64 a0_0) := (blk_cell BK145.out 0).trans rfl
        have hcz8_1 : wr.cell? ⟨gb145, 1, none⟩ = some (.int .i64 a0_1) := (blk_cell BK145.out 1).trans rfl
        have hcz8_2 : wr.cell? ⟨gb145, 2, none⟩ = some (.slice A0_2 l0_2.length c0_2) := (blk_cell BK145.out 2).trans rfl
        have hfz8_0 := blk_frozen BK145.out 0
        have hfz8_1 := blk_frozen BK145.out 1
        have hfz8_2 := blk_frozen BK145.out 2
        go_wp2
        go_ret
        exact ⟨by first | rfl | (simp [errW_none, errW_some] <;> rfl) | (simp [*, errW_none, errW_some] <;> rfl), by repeat (first | (with_reducible first | exact HB.out | apply below_alloc | apply pw_below_drewN | apply below_drew1 | refine below_set ?_ GE145.out) | exact HB.out)⟩

end Go.Proofs.Ytfonjmggalkbjaa.P
