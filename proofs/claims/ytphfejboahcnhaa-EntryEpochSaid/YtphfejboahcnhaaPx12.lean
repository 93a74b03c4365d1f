-- Laid by a program of this session (wip/pp.py), which calls the kit's print.
import Derived.Test.YtphfejboahcnhaaPx0
import Derived.Test.YtphfejboahcnhaaPx5
import Derived.Test.YtphfejboahcnhaaHEntryOf
namespace Go.Proofs.Ytphfejboahcnhaa.P
open Go.RowKit Go.Proofs.YtphfejboahcnhaaW.PrintWords Go.Proofs.YtphfejboahcnhaaW.PrintLast Go.Proofs.YtphfejboahcnhaaW.PrintMore
attribute [local go_sem] max2_int min2_int max_two min_two max_three min_three max_four min_four   -- for this text's walks alone
set_option linter.unusedVariables false
set_option linter.unusedSimpArgs false

/-! ### pelicanlaw10_EntryEpoch: function 7 -/
def pelicanlaw10_EntryEpoch.j0 : Nat → List (S25) → Bool → Bool → Int → Int → Int → Int → Int → Int → Int → Int → Int → Option (Bool)
  | 0, _, _, _, _, _, _, _, _, _, _, _, _ => none
  | k + 1, x0, x5, x14, x339000, x339001, x339002, x339003, x339004, x339005, x339006, x339007, x339008 => if x14 = true then (some x5) else (if ([] : List (S25)).length + x0.length < 1954687338268 then ((some (([] : List (S25)) ++ x0 : List (S25))).bind fun y340 => ((some (([(⟨x339000, x339001, x339002, x339003, x339004, x339005, x339006, x339007, x339008⟩ : S25)] : List (S25)) : List (S25))).bind fun y343 => (if y340.length + y343.length < 1954687338268 then ((some (y340 ++ y343 : List (S25))).bind fun y346 => (if x339000 = 0 then ((entry_Epoch.f y346).bind fun t349 => (some (t349 == x339002))) else ((entry_Epoch.f y346).bind fun t350 => ((entry_Epoch.f x0).bind fun t351 => (some (t350 == t351)))))) else (none)))) else (none))
def pelicanlaw10_EntryEpoch.f (k : Nat) (l0 : List (S25)) (a1_0 : Int) (a1_1 : Int) (a1_2 : Int) (a1_3 : Int) (a1_4 : Int) (a1_5 : Int) (a1_6 : Int) (a1_7 : Int) (a1_8 : Int) : Option (Bool) := (pelicanlaw10_awake.f k).bind fun t339 => (if t339 = true then (pelicanlaw10_EntryEpoch.j0 k l0 t339 (decide ((l0.length : Int) > 300)) a1_0 a1_1 a1_2 a1_3 a1_4 a1_5 a1_6 a1_7 a1_8) else (pelicanlaw10_EntryEpoch.j0 k l0 t339 true a1_0 a1_1 a1_2 a1_3 a1_4 a1_5 a1_6 a1_7 a1_8))
theorem pelicanlaw10_EntryEpoch.mono_l : ∀ k, (∀ y0 y1 y2 y3 y4 y5 y6 y7 y8 y9 y10 y11, LeO (pelicanlaw10_EntryEpoch.j0 k y0 y1 y2 y3 y4 y5 y6 y7 y8 y9 y10 y11) (pelicanlaw10_EntryEpoch.j0 (k + 1) y0 y1 y2 y3 y4 y5 y6 y7 y8 y9 y10 y11))
  | 0 => fun _ _ _ _ _ _ _ _ _ _ _ _ r h => by simp [pelicanlaw10_EntryEpoch.j0] at h
  | k + 1 => by
    have ih0 := pelicanlaw10_EntryEpoch.mono_l k
    · intro y0 y1 y2 y3 y4 y5 y6 y7 y8 y9 y10 y11
      unfold pelicanlaw10_EntryEpoch.j0
      repeat' first
      | (with_reducible exact ih0 _ _ _ _ _ _ _ _ _ _ _ _)
      | (with_reducible exact pelicanlaw10_awake.mono _)
      | (with_reducible exact LeO.refl _)
      | (with_reducible exact LeO.none _)
      | (with_reducible refine LeO.ite ?_ ?_)
      | (with_reducible refine LeO.bind ?_ (fun _ => ?_))
      | exact ih0 _ _ _ _ _ _ _ _ _ _ _ _
      | exact pelicanlaw10_awake.mono _
      | exact LeO.none _
      | refine LeO.ite ?_ ?_
      | refine LeO.bind ?_ (fun _ => ?_)
theorem pelicanlaw10_EntryEpoch.mono : ∀ a0 a1 a2 a3 a4 a5 a6 a7 a8 a9 k, LeO (pelicanlaw10_EntryEpoch.f k a0 a1 a2 a3 a4 a5 a6 a7 a8 a9) (pelicanlaw10_EntryEpoch.f (k + 1) a0 a1 a2 a3 a4 a5 a6 a7 a8 a9) := by
  intro a0 a1 a2 a3 a4 a5 a6 a7 a8 a9 k
  have ih0 := pelicanlaw10_EntryEpoch.mono_l k
  unfold pelicanlaw10_EntryEpoch.f
  repeat' first
      | (with_reducible exact ih0 _ _ _ _ _ _ _ _ _ _ _ _)
      | (with_reducible exact pelicanlaw10_awake.mono _)
      | (with_reducible exact LeO.refl _)
      | (with_reducible exact LeO.none _)
      | (with_reducible refine LeO.ite ?_ ?_)
      | (with_reducible refine LeO.bind ?_ (fun _ => ?_))
      | exact ih0 _ _ _ _ _ _ _ _ _ _ _ _
      | exact pelicanlaw10_awake.mono _
      | exact LeO.none _
      | refine LeO.ite ?_ ?_
      | refine LeO.bind ?_ (fun _ => ?_)
set_option maxHeartbeats 8000000 in
set_option maxRecDepth 100000 in
theorem pelicanlaw10_EntryEpoch.calls (k : Nat) (A0 : Option Addr) (c0 : Nat) (l0 : List (S25)) (a1_0 : Int) (a1_1 : Int) (a1_2 : Int) (a1_3 : Int) (a1_4 : Int) (a1_5 : Int) (a1_6 : Int) (a1_7 : Int) (a1_8 : Int) (r : Bool) (w : World) (hr0 : Kd.C k25 w A0 l0.length l0) (hc0 : l0.length ≤ c0) (h : pelicanlaw10_EntryEpoch.f k l0 a1_0 a1_1 a1_2 a1_3 a1_4 a1_5 a1_6 a1_7 a1_8 = some r) (hr_0 : r = true) :
    Calls Try.prog 7 #[.slice A0 l0.length c0, .agg #[.int .i64 a1_0, .int .i64 a1_1, .int .i64 a1_2, .int .i64 a1_3, .int .u64 a1_4, .int .u64 a1_5, .int .i64 a1_6, .int .i64 a1_7, .int .i64 a1_8]] w fun e w' => e = .returned (.bool r) ∧ Below w.heap.size w w' := by
  have hr_ := Aside0.mk hr_0
  clear hr_0
  have hu25 := Try.underlying25
  have HR0 := Aside0.mk hr0
  have HC0 := Aside0.mk hc0
  clear hr0 hc0
  have HB := Aside0.mk (Below.refl w.heap.size w)
  have H : ((pelicanlaw10_awake.f k).bind fun t339 => (if t339 = true then (pelicanlaw10_EntryEpoch.j0 k l0 t339 (decide ((l0.length : Int) > 300)) a1_0 a1_1 a1_2 a1_3 a1_4 a1_5 a1_6 a1_7 a1_8) else (pelicanlaw10_EntryEpoch.j0 k l0 t339 true a1_0 a1_1 a1_2 a1_3 a1_4 a1_5 a1_6 a1_7 a1_8))) = some r := h
  clear h
  replace H := Option.bind_eq_some_iff.mp H
  obtain ⟨t339, A30, H⟩ := H
  replace H : (if t339 = true then (pelicanlaw10_EntryEpoch.j0 k l0 t339 (decide ((l0.length : Int) > 300)) a1_0 a1_1 a1_2 a1_3 a1_4 a1_5 a1_6 a1_7 a1_8) else (pelicanlaw10_EntryEpoch.j0 k l0 t339 true a1_0 a1_1 a1_2 a1_3 a1_4 a1_5 a1_6 a1_7 a1_8)) = some r := H
  have A3 := Aside0.mk A30
  clear A30
  have HC4 := Aside0.mk H
  clear H
  go_enter Try.func7, Try.ntmps7
  go_upto_region 2 with (first | ((with_reducible refine gate_dst (N := 3) rfl ?_); (try (refine gate_guard (by rfl) ?_; dsimp only)); refine box_event ?hg (N := 3) ?hd (cs := #[.int .i64 a1_0, .int .i64 a1_1, .int .i64 a1_2, .int .i64 a1_3, .int .u64 a1_4, .int .u64 a1_5, .int .i64 a1_6, .int .i64 a1_7, .int .i64 a1_8]) (t := 25) ?hr ?_; (case hd => rfl); (case hg => rfl); (case hr => first | (go_simp; done) | (go_simp; rfl)); intro gb338 hg w5 hbox hb; have n0_ := Aside0.mk (below_step (by repeat (first | (with_reducible first | exact HB.out | apply below_alloc | apply pw_below_drewN | apply below_drew1) | exact HB.out)) hb); have n1_ := Aside0.mk (hbox); have n2_ := Aside0.mk ((by rw [hg]; exact (below_size (by repeat (first | (with_reducible first | exact HB.out | apply below_alloc | apply pw_below_drewN | apply below_drew1) | exact HB.out))) : w.heap.size ≤ gb338)); have n3_ := Aside0.mk ((by rw [hg]; exact (below_size (by repeat (first | (with_reducible first | exact HB.out | apply below_alloc | apply pw_below_drewN | apply below_drew1) | exact HB.out))) : w.heap.size ≤ gb338)); clear HB; have HB := n0_; have BK338 := n1_; have GW338 := n2_; have GE338 := n3_; clear n0_ n1_ n2_ n3_; clear hb hbox hg) | ((with_reducible refine gate_callee (f := 9) rfl ?_); refine goesL_ (some 7) rfl rfl Try.func9 (by kernel_rfl) rfl #[] rfl (by (try simp only [List.map_toArray, List.map_cons, List.map_nil]); first | done | rfl | (simp only [List.length_drop, List.length_take]; rfl)) ?_; (with_reducible refine (pelicanlaw10_awake.calls k  t339 _ A3.out).mono ?_); rintro e w6 ⟨rfl, hb⟩; refine ⟨_, rfl, ?_⟩; have n0_ := Aside0.mk (blk_below (g := gb338) (o := .cells #[.int .i64 a1_0, .int .i64 a1_1, .int .i64 a1_2, .int .i64 a1_3, .int .u64 a1_4, .int .u64 a1_5, .int .i64 a1_6, .int .i64 a1_7, .int .i64 a1_8] 25 (0, 0)) (by (with_reducible repeat (first | refine blk_drewN ?_ _ | refine blk_drew ?_ | refine blk_alloc ?_ _)); exact BK338.out) hb); have n1_ := Aside0.mk (below_step (by repeat (first | (with_reducible first | exact HB.out | apply below_alloc | apply pw_below_drewN | apply below_drew1 | refine below_set ?_ GE338.out) | exact HB.out)) hb); clear BK338; clear HB; have BK338 := n0_; have HB := n1_; clear n0_ n1_; (try clear hb); (try clear hb2); (try clear hk); (try clear hi)))
  (try simp only [Act.put, List.setIfInBounds_toArray, List.set_cons_zero, List.set_cons_succ])
  go_cut [14] (fun v14 wc => ∃ (kq : Nat) (x14_3 : Bool), v14 = .bool x14_3 ∧ Aside0 (pelicanlaw10_EntryEpoch.j0 kq l0 t339 x14_3 a1_0 a1_1 a1_2 a1_3 a1_4 a1_5 a1_6 a1_7 a1_8 = some r) ∧ Aside0 (kq ≤ k) ∧ Aside0 (wc.heap[gb338]? = some (.cells #[.int .i64 a1_0, .int .i64 a1_1, .int .i64 a1_2, .int .i64 a1_3, .int .u64 a1_4, .int .u64 a1_5, .int .i64 a1_6, .int .i64 a1_7, .int .i64 a1_8] 25 (0, 0))) ∧ Aside0 (Below w.heap.size w wc))
  case first =>
    have H := HC4.out
    clear HC4
    by_cases c7 : t339 = true
    · subst c7
      have H1 : (pelicanlaw10_EntryEpoch.j0 k l0 true (decide ((l0.length : Int) > 300)) a1_0 a1_1 a1_2 a1_3 a1_4 a1_5 a1_6 a1_7 a1_8) = some r := by rw [if_pos rfl] at H; exact H
      clear H
      have H := H1
      clear H1
      have H' := Aside0.mk H
      clear H
      go_wp2
      go_meet
      case rel => exact ⟨_, (decide ((l0.length : Int) > 300)), (by first | rfl | (simp; done) | (simp [*]; done)), H', ⟨by first | omega | exact Nat.le_refl _⟩, ⟨by (with_reducible repeat (first | refine blk_drewN ?_ _ | refine blk_drew ?_ | refine blk_alloc ?_ _)); exact BK338.out⟩, ⟨by repeat (first | (with_reducible first | exact HB.out | apply below_alloc | apply pw_below_drewN | apply below_drew1 | refine below_set ?_ GE338.out) | exact HB.out)⟩⟩
    · replace c7 := Bool.eq_false_iff.mpr c7
      subst c7
      have H1 : (pelicanlaw10_EntryEpoch.j0 k l0 false true a1_0 a1_1 a1_2 a1_3 a1_4 a1_5 a1_6 a1_7 a1_8) = some r := by rw [if_neg (show ¬ (false = true) by decide)] at H; exact H
      clear H
      have H := H1
      clear H1
      have H' := Aside0.mk H
      clear H
      go_wp2
      go_meet
      case rel => exact ⟨_, (true), (by first | rfl | (simp; done) | (simp [*]; done)), H', ⟨by first | omega | exact Nat.le_refl _⟩, ⟨by (with_reducible repeat (first | refine blk_drewN ?_ _ | refine blk_drew ?_ | refine blk_alloc ?_ _)); exact BK338.out⟩, ⟨by repeat (first | (with_reducible first | exact HB.out | apply below_alloc | apply pw_below_drewN | apply below_drew1 | refine below_set ?_ GE338.out) | exact HB.out)⟩⟩
  case rest =>
    clear HC4
    try clear p2
    try clear c7
    obtain ⟨kq, x14_3, rfl, HA, HJ3, BK338, HB⟩ := hcut
    cases kq with
    | zero => exact absurd HA.out (by simp [pelicanlaw10_EntryEpoch.j0])
    | succ kj3 =>
      have H := HA.out
      clear HA
      simp only [pelicanlaw10_EntryEpoch.j0] at H
      by_cases c8 : x14_3 = true
      · subst c8
        have H1 : (some t339) = some r := by rw [if_pos rfl] at H; exact H
        clear H
        have H := H1
        clear H1
        obtain rfl := Option.some.inj H
        go_wp2
        go_ret
        exact ⟨by first | rfl | (simp [errW_none, errW_some] <;> rfl) | (simp [*, errW_none, errW_some] <;> rfl), by repeat (first | (with_reducible first | exact HB.out | apply below_alloc | apply pw_below_drewN | apply below_drew1 | refine below_set ?_ GE338.out) | exact HB.out)⟩
      · replace c8 := Bool.eq_false_iff.mpr c8
        subst c8
        have H1 : (if ([] : List (S25)).length + l0.length < 1954687338268 then ((some (([] : List (S25)) ++ l0 : List (S25))).bind fun y340 => ((some (([(⟨a1_0, a1_1, a1_2, a1_3, a1_4, a1_5, a1_6, a1_7, a1_8⟩ : S25)] : List (S25)) : List (S25))).bind fun y343 => (if y340.length + y343.length < 1954687338268 then ((some (y340 ++ y343 : List (S25))).bind fun y346 => (if a1_0 = 0 then ((entry_Epoch.f y346).bind fun t349 => (some (t349 == a1_2))) else ((entry_Epoch.f y346).bind fun t350 => ((entry_Epoch.f l0).bind fun t351 => (some (t350 == t351)))))) else (none)))) else (none)) = some r := by rw [if_neg (show ¬ (false = true) by decide)] at H; exact H
        clear H
        have H := H1
        clear H1
        by_cases c9 : ([] : List (S25)).length + l0.length < 1954687338268
        · rw [if_pos c9] at H
          have LMc9 := Aside0.mk c9
          clear c9
          obtain ⟨y340, hy340⟩ : ∃ y_ : List (S25), y_ = (([] : List (S25)) ++ l0) := ⟨_, rfl⟩
          replace H : ((some (([(⟨a1_0, a1_1, a1_2, a1_3, a1_4, a1_5, a1_6, a1_7, a1_8⟩ : S25)] : List (S25)) : List (S25))).bind fun y343 => (if y340.length + y343.length < 1954687338268 then ((some (y340 ++ y343 : List (S25))).bind fun y346 => (if a1_0 = 0 then ((entry_Epoch.f y346).bind fun t349 => (some (t349 == a1_2))) else ((entry_Epoch.f y346).bind fun t350 => ((entry_Epoch.f l0).bind fun t351 => (some (t350 == t351)))))) else (none))) = some r := by first | (rw [hy340]; with_reducible exact H) | (have H2_ := (Option.bind_some _ _).symm.trans H; rw [hy340]; with_reducible exact H2_) | (have H2_ := (Option.bind_some _ _).symm.trans H; with_reducible exact H2_) | with_reducible exact H | (rw [hy340]; exact H) | exact H
          have Ny340 := Aside0.mk hy340
          clear hy340
          obtain ⟨y343, hy343⟩ : ∃ y_ : List (S25), y_ = (([(⟨a1_0, a1_1, a1_2, a1_3, a1_4, a1_5, a1_6, a1_7, a1_8⟩ : S25)] : List (S25))) := ⟨_, rfl⟩
          replace H : (if y340.length + y343.length < 1954687338268 then ((some (y340 ++ y343 : List (S25))).bind fun y346 => (if a1_0 = 0 then ((entry_Epoch.f y346).bind fun t349 => (some (t349 == a1_2))) else ((entry_Epoch.f y346).bind fun t350 => ((entry_Epoch.f l0).bind fun t351 => (some (t350 == t351)))))) else (none)) = some r := by first | (rw [hy343]; with_reducible exact H) | (have H2_ := (Option.bind_some _ _).symm.trans H; rw [hy343]; with_reducible exact H2_) | (have H2_ := (Option.bind_some _ _).symm.trans H; with_reducible exact H2_) | with_reducible exact H | (rw [hy343]; exact H) | exact H
          have Ny343 := Aside0.mk hy343
          clear hy343
          by_cases c10 : y340.length + y343.length < 1954687338268
          · rw [if_pos c10] at H
            have LMc10 := Aside0.mk c10
            clear c10
            obtain ⟨y346, hy346⟩ : ∃ y_ : List (S25), y_ = (y340 ++ y343) := ⟨_, rfl⟩
            replace H : (if a1_0 = 0 then ((entry_Epoch.f y346).bind fun t349 => (some (t349 == a1_2))) else ((entry_Epoch.f y346).bind fun t350 => ((entry_Epoch.f l0).bind fun t351 => (some (t350 == t351))))) = some r := by first | (rw [hy346]; with_reducible exact H) | (have H2_ := (Option.bind_some _ _).symm.trans H; rw [hy346]; with_reducible exact H2_) | (have H2_ := (Option.bind_some _ _).symm.trans H; with_reducible exact H2_) | with_reducible exact H | (rw [hy346]; exact H) | exact H
            have Ny346 := Aside0.mk hy346
            clear hy346
            by_cases c11 : a1_0 = 0
            · rw [if_pos c11] at H
              have c11b0 : (a1_0 == 0) = true := beq_iff_eq.mpr c11
              have c11b1 : (a1_0 != 0) = false := bne_eq_false_iff_eq.mpr c11
              clear c11
              replace H := Option.bind_eq_some_iff.mp H
              obtain ⟨t349, A120, H⟩ := H
              replace H : (some (t349 == a1_2)) = some r := H
              have A12 := Aside0.mk A120
              clear A120
              obtain rfl := Option.some.inj H
              try go_wp2
              have n0_ := Aside0.mk (blk_drew BK338.out)
              have n1_ := Aside0.mk (below_drew1 HB.out)
              clear BK338
              clear HB
              have BK338 := n0_
              have HB := n1_
              clear n0_ n1_
              refine start_ (n := 6) (S := fun w' => w'.cell? ⟨gb338, 0, none⟩ = some (.int .i64 a1_0) ∧ w'.cell? ⟨gb338, 1, none⟩ = some (.int .i64 a1_1) ∧ w'.cell? ⟨gb338, 2, none⟩ = some (.int .i64 a1_2) ∧ w'.cell? ⟨gb338, 3, none⟩ = some (.int .i64 a1_3) ∧ w'.cell? ⟨gb338, 4, none⟩ = some (.int .u64 a1_4) ∧ w'.cell? ⟨gb338, 5, none⟩ = some (.int .u64 a1_5) ∧ w'.cell? ⟨gb338, 6, none⟩ = some (.int .i64 a1_6) ∧ w'.cell? ⟨gb338, 7, none⟩ = some (.int .i64 a1_7) ∧ w'.cell? ⟨gb338, 8, none⟩ = some (.int .i64 a1_8)) (ds := []) #[false, false, false, false, false, false] (by kernel_rfl) rfl rfl ⟨(blk_cell BK338.out 0).trans rfl, (blk_cell BK338.out 1).trans rfl, (blk_cell BK338.out 2).trans rfl, (blk_cell BK338.out 3).trans rfl, (blk_cell BK338.out 4).trans rfl, (blk_cell BK338.out 5).trans rfl, (blk_cell BK338.out 6).trans rfl, (blk_cell BK338.out 7).trans rfl, (blk_cell BK338.out 8).trans rfl⟩ (fun hHeld => ?_)
              generalize wc.drew = w13 at BK338 HB hHeld ⊢
              refine pure_ (i := 0) (N := some 16) (v := ?_) (a' := ?_) #[true, false, false, false, false, false] rfl rfl (by kernel_rfl) (fun _ _ _ h => h) (Or.inl ⟨by rfl, ?_⟩) ?_ ?_
              rotate_left
              · intro w'
                go_simp
                with_reducible rfl
              rotate_left
              · simp only [Act.put, List.setIfInBounds_toArray, List.set_cons_zero, List.set_cons_succ, i64_w, i32_w]
                rfl
              refine take_ (i := 2) (N := some 18) (v := ?_) (a' := ?_) #[true, false, true, false, false, false] rfl rfl (by kernel_rfl) (fun _ _ _ h => h) (Or.inl ⟨by rfl, ?_⟩) hHeld ?_ ?_
              rotate_left
              · rintro w' ⟨s0, s1, s2, s3, s4, s5, s6, s7, s8⟩
                go_simp
                with_reducible rfl
              rotate_left
              · simp only [Act.put, List.setIfInBounds_toArray, List.set_cons_zero, List.set_cons_succ, i64_w, i32_w]
                rfl
              refine join_ (σ := Value × Value) 2 #[true, true, true, true, false, false] (fun s_ => [(17, s_.1), (19, s_.2)]) (fun s_ w' => (w'.cell? ⟨gb338, 0, none⟩ = some (.int .i64 a1_0) ∧ w'.cell? ⟨gb338, 1, none⟩ = some (.int .i64 a1_1) ∧ w'.cell? ⟨gb338, 2, none⟩ = some (.int .i64 a1_2) ∧ w'.cell? ⟨gb338, 3, none⟩ = some (.int .i64 a1_3) ∧ w'.cell? ⟨gb338, 4, none⟩ = some (.int .u64 a1_4) ∧ w'.cell? ⟨gb338, 5, none⟩ = some (.int .u64 a1_5) ∧ w'.cell? ⟨gb338, 6, none⟩ = some (.int .i64 a1_6) ∧ w'.cell? ⟨gb338, 7, none⟩ = some (.int .i64 a1_7) ∧ w'.cell? ⟨gb338, 8, none⟩ = some (.int .i64 a1_8)) ∧ (Kd.R k25 25 w' w.heap.size (fun k_ => some k_ ≠ (s_.2 : Value).ownBlock ∧ k_ ≠ gb338) s_.1 y340) ∧ (Kd.R k25 25 w' w.heap.size (fun k_ => some k_ ≠ (s_.1 : Value).ownBlock ∧ k_ ≠ gb338) s_.2 y343) ∧ (w'.heap[gb338]? = some (.cells #[.int .i64 a1_0, .int .i64 a1_1, .int .i64 a1_2, .int .i64 a1_3, .int .u64 a1_4, .int .u64 a1_5, .int .i64 a1_6, .int .i64 a1_7, .int .i64 a1_8] 25 (0, 0))) ∧ (Below w.heap.size w w')) ?_ ?_
              rotate_left
              · intro hCont
                refine two_ (i := 1) (j := 3) (Ni := some 17) (Nj := some 19) #[true, true, true, false, false, false] #[true, false, true, true, false, false] rfl rfl rfl rfl (by kernel_rfl) (by decide) (by decide) (fun K hK => ?_) (fun K hK => ?_)
                · skip
                  refine Kd.R_append_rows_step k25 (w0 := w) w.heap.size rfl (.const (.slice none 0 0)) (.tmp 16) 27 25 (.agg #[(.int .i64 0), (.int .i64 0), (.int .i64 0), (.int .i64 0), (.int .u64 0), (.int .u64 0), (.int .i64 0), (.int .i64 0), (.int .i64 0)]) 72 rfl Try.underlying27 info25 rfl (by decide) (by omega) (.slice none 0 0) ([] : List (S25)) l0 _ _ _ (fun k_ => k_ ≠ gb338) (fun _ => False) rfl rfl ?aO ?aR (fun _ _ h => h) (fun _ h => h.elim) ?aF ?aB ?aS ?aL ?_
                  (case aR => repeat (first | exact (Kd.C_below HR0.out HB.out) | (with_reducible refine Kd.C_alloc ?_ _) | (with_reducible refine Kd.C_drewN ?_ _) | (with_reducible refine Kd.C_drew ?_)))
                  (case aB => exact (by repeat (first | (with_reducible first | exact HB.out | apply below_alloc | apply pw_below_drewN | apply below_drew1 | refine below_set ?_ GE338.out) | exact HB.out)))
                  (case aF => exact (fun k_ hk => Kd.freshB (g := gb338) (o := .cells #[.int .i64 a1_0, .int .i64 a1_1, .int .i64 a1_2, .int .i64 a1_3, .int .u64 a1_4, .int .u64 a1_5, .int .i64 a1_6, .int .i64 a1_7, .int .i64 a1_8] 25 (0, 0)) (by (with_reducible repeat (first | refine blk_drewN ?_ _ | refine blk_drew ?_ | refine blk_alloc ?_ _)); exact BK338.out) k_ hk))
                  (case aO => exact ((Kd.R_nil _ _ _ _ (fun k_ => k_ ≠ gb338))))
                  (case aS => exact (below_size (by repeat (first | (with_reducible first | exact HB.out | apply below_alloc | apply pw_below_drewN | apply below_drew1 | refine below_set ?_ GE338.out) | exact HB.out))))
                  (case aL => have := LMc9.out; omega)
                  intro v341 w14 ho hb hg hat
                  rw [← Ny340.out] at ho
                  have n0_ := Aside0.mk (blk_grown (g := gb338) (o := .cells #[.int .i64 a1_0, .int .i64 a1_1, .int .i64 a1_2, .int .i64 a1_3, .int .u64 a1_4, .int .u64 a1_5, .int .i64 a1_6, .int .i64 a1_7, .int .i64 a1_8] 25 (0, 0)) (by (with_reducible repeat (first | refine blk_drewN ?_ _ | refine blk_drew ?_ | refine blk_alloc ?_ _)); exact BK338.out) hg (by simp [Value.ownBlock]))
                  have n1_ := Aside0.mk (hb)
                  have n2_ := Aside0.mk (ho)
                  clear BK338
                  clear HB
                  have BK338 := n0_
                  have HB := n1_
                  have HO342 := n2_
                  clear n0_ n1_ n2_
                  clear ho hb hg hat
                  refine hK.out _ _ ⟨(blk_cell BK338.out 0).trans rfl, (blk_cell BK338.out 1).trans rfl, (blk_cell BK338.out 2).trans rfl, (blk_cell BK338.out 3).trans rfl, (blk_cell BK338.out 4).trans rfl, (blk_cell BK338.out 5).trans rfl, (blk_cell BK338.out 6).trans rfl, (blk_cell BK338.out 7).trans rfl, (blk_cell BK338.out 8).trans rfl⟩ (fun hHeld => ?_)
                  clear hK K
                  refine norm_ (a' := ?_) ?_ ?_
                  rotate_left
                  · show Act.put _ (some 17) _ = _
                    simp only [Act.put, List.setIfInBounds_toArray, List.set_cons_zero, List.set_cons_succ, i64_w, i32_w]
                    rfl
                  refine one_ (i := 3) (N := some 19) #[true, true, true, true, false, false] rfl rfl (by kernel_rfl) (by decide) (fun K hK => ?_)
                  refine Kd.R_lit_step k25 _ 25 ?hg (N := 19) ?hd (xs := ([(⟨a1_0, a1_1, a1_2, a1_3, a1_4, a1_5, a1_6, a1_7, a1_8⟩ : S25)] : List (S25))) (inner := [.int .i64 a1_0, .int .i64 a1_1, .int .i64 a1_2, .int .i64 a1_3, .int .u64 a1_4, .int .u64 a1_5, .int .i64 a1_6, .int .i64 a1_7, .int .i64 a1_8]) (ok := fun _ => True) (okp := fun _ => True) ?hr ?hp (fun _ hk => hk) trivial (Below.refl _ _) (Nat.le_refl _) (by simp) ?_; (case hd => rfl); (case hg => rfl); (case hr => first | (go_simp; done) | (go_simp; rfl)); (case hp => exact (Reps.c9 (show Kd.M k25 _ _ _ (⟨a1_0, a1_1, a1_2, a1_3, a1_4, a1_5, a1_6, a1_7, a1_8⟩ : S25) [.int .i64 a1_0, .int .i64 a1_1, .int .i64 a1_2, .int .i64 a1_3, .int .u64 a1_4, .int .u64 a1_5, .int .i64 a1_6, .int .i64 a1_7, .int .i64 a1_8] from (k25_mkM _ _ _ (⟨a1_0, a1_1, a1_2, a1_3, a1_4, a1_5, a1_6, a1_7, a1_8⟩ : S25) )) (Reps.none _ _)))
                  intro v344 w15 ho16 hb hg_ hnew_
                  clear hg_ hnew_
                  (first | rw [← Ny343.out] at ho16 | (simp only [Int.reduceToNat] at ho16; rw [← Ny343.out] at ho16))
                  have n0_ := Aside0.mk (Kd.R_elder' (by (with_reducible repeat (first | apply Kd.R_alloc | apply Kd.R_drewN | apply Kd.R_drew)); exact HO342.out) (Kd.R_base ho16) hb)
                  have n1_ := Aside0.mk (Kd.R_lower (Kd.R_newB (Kd.R_new' ho16 (Kd.R_lt (by (with_reducible repeat (first | apply Kd.R_alloc | apply Kd.R_drewN | apply Kd.R_drew)); exact HO342.out))) (g := gb338) (o := .cells #[.int .i64 a1_0, .int .i64 a1_1, .int .i64 a1_2, .int .i64 a1_3, .int .u64 a1_4, .int .u64 a1_5, .int .i64 a1_6, .int .i64 a1_7, .int .i64 a1_8] 25 (0, 0)) (by (with_reducible repeat (first | refine blk_drewN ?_ _ | refine blk_drew ?_ | refine blk_alloc ?_ _)); exact BK338.out)) (below_size (by repeat (first | (with_reducible first | exact HB.out | apply below_alloc | apply pw_below_drewN | apply below_drew1 | refine below_set ?_ GE338.out) | exact HB.out))))
                  have n2_ := Aside0.mk (blk_below (g := gb338) (o := .cells #[.int .i64 a1_0, .int .i64 a1_1, .int .i64 a1_2, .int .i64 a1_3, .int .u64 a1_4, .int .u64 a1_5, .int .i64 a1_6, .int .i64 a1_7, .int .i64 a1_8] 25 (0, 0)) (by (with_reducible repeat (first | refine blk_drewN ?_ _ | refine blk_drew ?_ | refine blk_alloc ?_ _)); exact BK338.out) hb)
                  have n3_ := Aside0.mk (below_step (by repeat (first | (with_reducible first | exact HB.out | apply below_alloc | apply pw_below_drewN | apply below_drew1 | refine below_set ?_ GE338.out) | exact HB.out)) hb)
                  clear HO342
                  clear BK338
                  clear HB
                  have HO342 := n0_
                  have HO345 := n1_
                  have BK338 := n2_
                  have HB := n3_
                  clear n0_ n1_ n2_ n3_
                  clear hb ho16
                  refine hK.out _ _ ⟨(blk_cell BK338.out 0).trans rfl, (blk_cell BK338.out 1).trans rfl, (blk_cell BK338.out 2).trans rfl, (blk_cell BK338.out 3).trans rfl, (blk_cell BK338.out 4).trans rfl, (blk_cell BK338.out 5).trans rfl, (blk_cell BK338.out 6).trans rfl, (blk_cell BK338.out 7).trans rfl, (blk_cell BK338.out 8).trans rfl⟩ (fun hHeld => ?_)
                  clear hK K
                  refine norm_ (a' := ?_) ?_ ?_
                  rotate_left
                  · show Act.put _ (some 19) _ = _
                    simp only [Act.put, List.setIfInBounds_toArray, List.set_cons_zero, List.set_cons_succ, i64_w, i32_w]
                    rfl
                  exact norm_ (by simp only [putAll, Act.put, List.setIfInBounds_toArray, List.set_cons_zero, List.set_cons_succ]) (hCont (v341, v344) _ ⟨hHeld, (by (with_reducible repeat (first | apply Kd.R_alloc | apply Kd.R_drewN | apply Kd.R_drew)); exact Kd.R_mono HO342.out (fun _ hk => ⟨hk.2, hk.1⟩)), (by (with_reducible repeat (first | apply Kd.R_alloc | apply Kd.R_drewN | apply Kd.R_drew)); exact Kd.R_mono HO345.out (fun _ hk => ⟨hk.1.2, hk.2⟩)), (by (with_reducible repeat (first | refine blk_drewN ?_ _ | refine blk_drew ?_ | refine blk_alloc ?_ _)); exact BK338.out), (by repeat (first | (with_reducible first | exact HB.out | apply below_alloc | apply pw_below_drewN | apply below_drew1 | refine below_set ?_ GE338.out) | exact HB.out))⟩)
                · skip
                  refine Kd.R_lit_step k25 _ 25 ?hg (N := 19) ?hd (xs := ([(⟨a1_0, a1_1, a1_2, a1_3, a1_4, a1_5, a1_6, a1_7, a1_8⟩ : S25)] : List (S25))) (inner := [.int .i64 a1_0, .int .i64 a1_1, .int .i64 a1_2, .int .i64 a1_3, .int .u64 a1_4, .int .u64 a1_5, .int .i64 a1_6, .int .i64 a1_7, .int .i64 a1_8]) (ok := fun _ => True) (okp := fun _ => True) ?hr ?hp (fun _ hk => hk) trivial (Below.refl _ _) (Nat.le_refl _) (by simp) ?_; (case hd => rfl); (case hg => rfl); (case hr => first | (go_simp; done) | (go_simp; rfl)); (case hp => exact (Reps.c9 (show Kd.M k25 _ _ _ (⟨a1_0, a1_1, a1_2, a1_3, a1_4, a1_5, a1_6, a1_7, a1_8⟩ : S25) [.int .i64 a1_0, .int .i64 a1_1, .int .i64 a1_2, .int .i64 a1_3, .int .u64 a1_4, .int .u64 a1_5, .int .i64 a1_6, .int .i64 a1_7, .int .i64 a1_8] from (k25_mkM _ _ _ (⟨a1_0, a1_1, a1_2, a1_3, a1_4, a1_5, a1_6, a1_7, a1_8⟩ : S25) )) (Reps.none _ _)))
                  intro v344 w14 ho15 hb hg_ hnew_
                  clear hg_ hnew_
                  (first | rw [← Ny343.out] at ho15 | (simp only [Int.reduceToNat] at ho15; rw [← Ny343.out] at ho15))
                  have n0_ := Aside0.mk (Kd.R_lower (Kd.R_newB ho15 (g := gb338) (o := .cells #[.int .i64 a1_0, .int .i64 a1_1, .int .i64 a1_2, .int .i64 a1_3, .int .u64 a1_4, .int .u64 a1_5, .int .i64 a1_6, .int .i64 a1_7, .int .i64 a1_8] 25 (0, 0)) (by (with_reducible repeat (first | refine blk_drewN ?_ _ | refine blk_drew ?_ | refine blk_alloc ?_ _)); exact BK338.out)) (below_size (by repeat (first | (with_reducible first | exact HB.out | apply below_alloc | apply pw_below_drewN | apply below_drew1 | refine below_set ?_ GE338.out) | exact HB.out))))
                  have n1_ := Aside0.mk (blk_below (g := gb338) (o := .cells #[.int .i64 a1_0, .int .i64 a1_1, .int .i64 a1_2, .int .i64 a1_3, .int .u64 a1_4, .int .u64 a1_5, .int .i64 a1_6, .int .i64 a1_7, .int .i64 a1_8] 25 (0, 0)) (by (with_reducible repeat (first | refine blk_drewN ?_ _ | refine blk_drew ?_ | refine blk_alloc ?_ _)); exact BK338.out) hb)
                  have n2_ := Aside0.mk (below_step (by repeat (first | (with_reducible first | exact HB.out | apply below_alloc | apply pw_below_drewN | apply below_drew1 | refine below_set ?_ GE338.out) | exact HB.out)) hb)
                  clear BK338
                  clear HB
                  have HO345 := n0_
                  have BK338 := n1_
                  have HB := n2_
                  clear n0_ n1_ n2_
                  clear hb ho15
                  refine hK.out _ _ ⟨(blk_cell BK338.out 0).trans rfl, (blk_cell BK338.out 1).trans rfl, (blk_cell BK338.out 2).trans rfl, (blk_cell BK338.out 3).trans rfl, (blk_cell BK338.out 4).trans rfl, (blk_cell BK338.out 5).trans rfl, (blk_cell BK338.out 6).trans rfl, (blk_cell BK338.out 7).trans rfl, (blk_cell BK338.out 8).trans rfl⟩ (fun hHeld => ?_)
                  clear hK K
                  refine norm_ (a' := ?_) ?_ ?_
                  rotate_left
                  · show Act.put _ (some 19) _ = _
                    simp only [Act.put, List.setIfInBounds_toArray, List.set_cons_zero, List.set_cons_succ, i64_w, i32_w]
                    rfl
                  refine one_ (i := 1) (N := some 17) #[true, true, true, true, false, false] rfl rfl (by kernel_rfl) (by decide) (fun K hK => ?_)
                  refine Kd.R_append_rows_step k25 (w0 := w) w.heap.size rfl (.const (.slice none 0 0)) (.tmp 16) 27 25 (.agg #[(.int .i64 0), (.int .i64 0), (.int .i64 0), (.int .i64 0), (.int .u64 0), (.int .u64 0), (.int .i64 0), (.int .i64 0), (.int .i64 0)]) 72 rfl Try.underlying27 info25 rfl (by decide) (by omega) (.slice none 0 0) ([] : List (S25)) l0 _ _ _ (fun k_ => some k_ ≠ (v344 : Value).ownBlock ∧ k_ ≠ gb338) (fun _ => False) rfl rfl ?aO ?aR (fun _ _ h => h) (fun _ h => h.elim) ?aF ?aB ?aS ?aL ?_
                  (case aR => repeat (first | exact (Kd.C_below HR0.out HB.out) | (with_reducible refine Kd.C_alloc ?_ _) | (with_reducible refine Kd.C_drewN ?_ _) | (with_reducible refine Kd.C_drew ?_)))
                  (case aB => exact (by repeat (first | (with_reducible first | exact HB.out | apply below_alloc | apply pw_below_drewN | apply below_drew1 | refine below_set ?_ GE338.out) | exact HB.out)))
                  (case aF => exact (fun k_ hk => ⟨Kd.fresh' (Kd.R_lt (by (with_reducible repeat (first | apply Kd.R_alloc | apply Kd.R_drewN | apply Kd.R_drew)); exact HO345.out)) k_ hk, Kd.freshB (g := gb338) (o := .cells #[.int .i64 a1_0, .int .i64 a1_1, .int .i64 a1_2, .int .i64 a1_3, .int .u64 a1_4, .int .u64 a1_5, .int .i64 a1_6, .int .i64 a1_7, .int .i64 a1_8] 25 (0, 0)) (by (with_reducible repeat (first | refine blk_drewN ?_ _ | refine blk_drew ?_ | refine blk_alloc ?_ _)); exact BK338.out) k_ hk⟩))
                  (case aO => exact ((Kd.R_nil _ _ _ _ (fun k_ => some k_ ≠ (v344 : Value).ownBlock ∧ k_ ≠ gb338))))
                  (case aS => exact (below_size (by repeat (first | (with_reducible first | exact HB.out | apply below_alloc | apply pw_below_drewN | apply below_drew1 | refine below_set ?_ GE338.out) | exact HB.out))))
                  (case aL => have := LMc9.out; omega)
                  intro v341 w16 ho hb hg hat
                  rw [← Ny340.out] at ho
                  have n0_ := Aside0.mk (blk_grown (g := gb338) (o := .cells #[.int .i64 a1_0, .int .i64 a1_1, .int .i64 a1_2, .int .i64 a1_3, .int .u64 a1_4, .int .u64 a1_5, .int .i64 a1_6, .int .i64 a1_7, .int .i64 a1_8] 25 (0, 0)) (by (with_reducible repeat (first | refine blk_drewN ?_ _ | refine blk_drew ?_ | refine blk_alloc ?_ _)); exact BK338.out) hg (by simp [Value.ownBlock]))
                  have n1_ := Aside0.mk (Kd.R_after (Kd.R_apart_nil (by (with_reducible repeat (first | apply Kd.R_alloc | apply Kd.R_drewN | apply Kd.R_drew)); exact HO345.out)) hg hat)
                  have n2_ := Aside0.mk (hb)
                  have n3_ := Aside0.mk (ho)
                  clear BK338
                  clear HO345
                  clear HB
                  have BK338 := n0_
                  have HO345 := n1_
                  have HB := n2_
                  have HO342 := n3_
                  clear n0_ n1_ n2_ n3_
                  clear ho hb hg hat
                  refine hK.out _ _ ⟨(blk_cell BK338.out 0).trans rfl, (blk_cell BK338.out 1).trans rfl, (blk_cell BK338.out 2).trans rfl, (blk_cell BK338.out 3).trans rfl, (blk_cell BK338.out 4).trans rfl, (blk_cell BK338.out 5).trans rfl, (blk_cell BK338.out 6).trans rfl, (blk_cell BK338.out 7).trans rfl, (blk_cell BK338.out 8).trans rfl⟩ (fun hHeld => ?_)
                  clear hK K
                  refine norm_ (a' := ?_) ?_ ?_
                  rotate_left
                  · show Act.put _ (some 17) _ = _
                    simp only [Act.put, List.setIfInBounds_toArray, List.set_cons_zero, List.set_cons_succ, i64_w, i32_w]
                    rfl
                  exact norm_ (by simp only [putAll, Act.put, List.setIfInBounds_toArray, List.set_cons_zero, List.set_cons_succ]) (hCont (v341, v344) _ ⟨hHeld, (by (with_reducible repeat (first | apply Kd.R_alloc | apply Kd.R_drewN | apply Kd.R_drew)); exact HO342.out), (by (with_reducible repeat (first | apply Kd.R_alloc | apply Kd.R_drewN | apply Kd.R_drew)); exact Kd.R_mono HO345.out (fun _ hk => ⟨hk.2, hk.1.2⟩)), (by (with_reducible repeat (first | refine blk_drewN ?_ _ | refine blk_drew ?_ | refine blk_alloc ?_ _)); exact BK338.out), (by repeat (first | (with_reducible first | exact HB.out | apply below_alloc | apply pw_below_drewN | apply below_drew1 | refine below_set ?_ GE338.out) | exact HB.out))⟩)
              rintro ⟨v341, v344⟩ w17 ⟨hS_, h0_, h1_, h2_, h3_⟩
              have n0_ : Aside0 (Kd.R k25 25 w17 w.heap.size (fun k_ => some k_ ≠ (v344 : Value).ownBlock ∧ k_ ≠ gb338) v341 y340) := ⟨h0_⟩
              have n1_ : Aside0 (Kd.R k25 25 w17 w.heap.size (fun k_ => some k_ ≠ (v341 : Value).ownBlock ∧ k_ ≠ gb338) v344 y343) := ⟨h1_⟩
              have n2_ : Aside0 (w17.heap[gb338]? = some (.cells #[.int .i64 a1_0, .int .i64 a1_1, .int .i64 a1_2, .int .i64 a1_3, .int .u64 a1_4, .int .u64 a1_5, .int .i64 a1_6, .int .i64 a1_7, .int .i64 a1_8] 25 (0, 0))) := ⟨h2_⟩
              have n3_ : Aside0 (Below w.heap.size w w17) := ⟨h3_⟩
              clear BK338
              clear HB
              clear h0_ h1_ h2_ h3_
              have HO342 := n0_
              have HO345 := n1_
              have BK338 := n2_
              have HB := n3_
              clear n0_ n1_ n2_ n3_
              have hHeld : w17.cell? ⟨gb338, 0, none⟩ = some (.int .i64 a1_0) ∧ w17.cell? ⟨gb338, 1, none⟩ = some (.int .i64 a1_1) ∧ w17.cell? ⟨gb338, 2, none⟩ = some (.int .i64 a1_2) ∧ w17.cell? ⟨gb338, 3, none⟩ = some (.int .i64 a1_3) ∧ w17.cell? ⟨gb338, 4, none⟩ = some (.int .u64 a1_4) ∧ w17.cell? ⟨gb338, 5, none⟩ = some (.int .u64 a1_5) ∧ w17.cell? ⟨gb338, 6, none⟩ = some (.int .i64 a1_6) ∧ w17.cell? ⟨gb338, 7, none⟩ = some (.int .i64 a1_7) ∧ w17.cell? ⟨gb338, 8, none⟩ = some (.int .i64 a1_8) := hS_
              obtain ⟨Ao19, co19, eo19⟩ := Kd.R_slice HO345.out
              (first | subst eo19 | (injection eo19 with f1_ f2_ f3_; have f4_ := f1_.symm; have f5_ := f3_.symm; clear f1_ f2_ f3_; subst f4_; subst f5_))
              refine norm_ (a' := ?_) ?_ ?_
              rotate_left
              · simp only [putAll, Act.put, List.setIfInBounds_toArray, List.set_cons_zero, List.set_cons_succ]
                rfl
              refine one_ (i := 4) (N := some 20) #[true, true, true, true, true, false] rfl rfl (by kernel_rfl) (by decide) (fun K hK => ?_)
              refine Kd.R_append_rows_step k25 (w0 := w) w.heap.size (by rfl) (.tmp 17) (.tmp 19) 27 25 (.agg #[(.int .i64 0), (.int .i64 0), (.int .i64 0), (.int .i64 0), (.int .u64 0), (.int .u64 0), (.int .i64 0), (.int .i64 0), (.int .i64 0)]) 72 rfl Try.underlying27 info25 rfl (by decide) (by omega) v341 y340 y343 _ _ _ (fun k_ => some k_ ≠ (.slice Ao19 y343.length co19 : Value).ownBlock ∧ k_ ≠ gb338) (fun _ => False) rfl rfl ?aO ?aR (fun _ _ h => h) (fun _ h => h.elim) ?aF ?aB ?aS ?aL ?_
              (case aR => repeat (first | exact (Kd.R_reads' HO345.out).2.2 | (with_reducible refine Kd.C_alloc ?_ _) | (with_reducible refine Kd.C_drewN ?_ _) | (with_reducible refine Kd.C_drew ?_)))
              (case aB => exact (by repeat (first | (with_reducible first | exact HB.out | apply below_alloc | apply pw_below_drewN | apply below_drew1 | refine below_set ?_ GE338.out) | exact HB.out)))
              (case aF => exact (fun k_ hk => ⟨Kd.fresh' (Kd.R_lt (by (with_reducible repeat (first | apply Kd.R_alloc | apply Kd.R_drewN | apply Kd.R_drew)); exact HO345.out)) k_ hk, Kd.freshB (g := gb338) (o := .cells #[.int .i64 a1_0, .int .i64 a1_1, .int .i64 a1_2, .int .i64 a1_3, .int .u64 a1_4, .int .u64 a1_5, .int .i64 a1_6, .int .i64 a1_7, .int .i64 a1_8] 25 (0, 0)) (by (with_reducible repeat (first | refine blk_drewN ?_ _ | refine blk_drew ?_ | refine blk_alloc ?_ _)); exact BK338.out) k_ hk⟩))
              (case aO => exact (by (with_reducible repeat (first | apply Kd.R_alloc | apply Kd.R_drewN | apply Kd.R_drew)); exact HO342.out))
              (case aS => exact (below_size (by repeat (first | (with_reducible first | exact HB.out | apply below_alloc | apply pw_below_drewN | apply below_drew1 | refine below_set ?_ GE338.out) | exact HB.out))))
              (case aL => have := LMc10.out; omega)
              intro v347 w18 ho hb hg hat
              rw [← Ny346.out] at ho
              have n0_ := Aside0.mk (blk_grown (g := gb338) (o := .cells #[.int .i64 a1_0, .int .i64 a1_1, .int .i64 a1_2, .int .i64 a1_3, .int .u64 a1_4, .int .u64 a1_5, .int .i64 a1_6, .int .i64 a1_7, .int .i64 a1_8] 25 (0, 0)) (by (with_reducible repeat (first | refine blk_drewN ?_ _ | refine blk_drew ?_ | refine blk_alloc ?_ _)); exact BK338.out) hg (Kd.R_away HO342.out (fun _ hk => hk.2)))
              have n1_ := Aside0.mk (Kd.R_after (ok := (fun k_ => k_ ≠ gb338)) (by (with_reducible repeat (first | apply Kd.R_alloc | apply Kd.R_drewN | apply Kd.R_drew)); exact Kd.R_mono HO345.out (fun _ hk => ⟨hk.2, hk.1⟩)) hg hat)
              have n2_ := Aside0.mk (hb)
              have n3_ := Aside0.mk (ho)
              clear BK338
              clear HO345
              clear HB
              clear HO342
              have BK338 := n0_
              have HO345 := n1_
              have HB := n2_
              have HO348 := n3_
              clear n0_ n1_ n2_ n3_
              clear ho hb hg hat
              refine hK.out _ _ ⟨(blk_cell BK338.out 0).trans rfl, (blk_cell BK338.out 1).trans rfl, (blk_cell BK338.out 2).trans rfl, (blk_cell BK338.out 3).trans rfl, (blk_cell BK338.out 4).trans rfl, (blk_cell BK338.out 5).trans rfl, (blk_cell BK338.out 6).trans rfl, (blk_cell BK338.out 7).trans rfl, (blk_cell BK338.out 8).trans rfl⟩ (fun hHeld => ?_)
              clear hK K
              refine norm_ (a' := ?_) ?_ ?_
              rotate_left
              · show Act.put _ (some 20) _ = _
                simp only [Act.put, List.setIfInBounds_toArray, List.set_cons_zero, List.set_cons_succ, i64_w, i32_w]
                rfl
              refine pure_ (i := 5) (N := some 6) (v := ?_) (a' := ?_) #[true, true, true, true, true, true] rfl rfl (by kernel_rfl) (fun _ _ _ h => h) (Or.inl ⟨by rfl, ?_⟩) ?_ ?_
              rotate_left
              · intro w'
                go_simp
                with_reducible rfl
              rotate_left
              · simp only [Act.put, List.setIfInBounds_toArray, List.set_cons_zero, List.set_cons_succ, i64_w, i32_w]
                rfl
              refine done_ (by kernel_rfl) ?_
              have hcz20_0 : w18.cell? ⟨gb338, 0, none⟩ = some (.int .i64 a1_0) := (blk_cell BK338.out 0).trans rfl
              have hcz20_1 : w18.cell? ⟨gb338, 1, none⟩ = some (.int .i64 a1_1) := (blk_cell BK338.out 1).trans rfl
              have hcz20_2 : w18.cell? ⟨gb338, 2, none⟩ = some (.int .i64 a1_2) := (blk_cell BK338.out 2).trans rfl
              have hcz20_3 : w18.cell? ⟨gb338, 3, none⟩ = some (.int .i64 a1_3) := (blk_cell BK338.out 3).trans rfl
              have hcz20_4 : w18.cell? ⟨gb338, 4, none⟩ = some (.int .u64 a1_4) := (blk_cell BK338.out 4).trans rfl
              have hcz20_5 : w18.cell? ⟨gb338, 5, none⟩ = some (.int .u64 a1_5) := (blk_cell BK338.out 5).trans rfl
              have hcz20_6 : w18.cell? ⟨gb338, 6, none⟩ = some (.int .i64 a1_6) := (blk_cell BK338.out 6).trans rfl
              have hcz20_7 : w18.cell? ⟨gb338, 7, none⟩ = some (.int .i64 a1_7) := (blk_cell BK338.out 7).trans rfl
              have hcz20_8 : w18.cell? ⟨gb338, 8, none⟩ = some (.int .i64 a1_8) := (blk_cell BK338.out 8).trans rfl
              have hfz20_0 := blk_frozen BK338.out 0
              have hfz20_1 := blk_frozen BK338.out 1
              have hfz20_2 := blk_frozen BK338.out 2
              have hfz20_3 := blk_frozen BK338.out 3
              have hfz20_4 := blk_frozen BK338.out 4
              have hfz20_5 := blk_frozen BK338.out 5
              have hfz20_6 := blk_frozen BK338.out 6
              have hfz20_7 := blk_frozen BK338.out 7
              have hfz20_8 := blk_frozen BK338.out 8
              try go_wp2
              have n0_ := Aside0.mk (Kd.R_drew HO345.out)
              have n1_ := Aside0.mk (Kd.R_drew HO348.out)
              have n2_ := Aside0.mk (blk_drew BK338.out)
              have n3_ := Aside0.mk (below_drew1 HB.out)
              clear HO345
              clear HO348
              clear BK338
              clear HB
              have HO345 := n0_
              have HO348 := n1_
              have BK338 := n2_
              have HB := n3_
              clear n0_ n1_ n2_ n3_
              obtain ⟨Ao22, co22, eo22⟩ := Kd.R_slice HO348.out
              (first | subst eo22 | (injection eo22 with f1_ f2_ f3_; have f4_ := f1_.symm; have f5_ := f3_.symm; clear f1_ f2_ f3_; subst f4_; subst f5_))
              refine start_ (n := 6) (S := fun w' => w'.cell? ⟨gb338, 0, none⟩ = some (.int .i64 a1_0) ∧ w'.cell? ⟨gb338, 1, none⟩ = some (.int .i64 a1_1) ∧ w'.cell? ⟨gb338, 2, none⟩ = some (.int .i64 a1_2) ∧ w'.cell? ⟨gb338, 3, none⟩ = some (.int .i64 a1_3) ∧ w'.cell? ⟨gb338, 4, none⟩ = some (.int .u64 a1_4) ∧ w'.cell? ⟨gb338, 5, none⟩ = some (.int .u64 a1_5) ∧ w'.cell? ⟨gb338, 6, none⟩ = some (.int .i64 a1_6) ∧ w'.cell? ⟨gb338, 7, none⟩ = some (.int .i64 a1_7) ∧ w'.cell? ⟨gb338, 8, none⟩ = some (.int .i64 a1_8)) (ds := []) #[false, false, false, false, false, false] (by kernel_rfl) rfl rfl ⟨(blk_cell BK338.out 0).trans rfl, (blk_cell BK338.out 1).trans rfl, (blk_cell BK338.out 2).trans rfl, (blk_cell BK338.out 3).trans rfl, (blk_cell BK338.out 4).trans rfl, (blk_cell BK338.out 5).trans rfl, (blk_cell BK338.out 6).trans rfl, (blk_cell BK338.out 7).trans rfl, (blk_cell BK338.out 8).trans rfl⟩ (fun hHeld => ?_)
              generalize w18.drew = w21 at HO345 HO348 BK338 HB hHeld ⊢
              refine pure_ (i := 0) (N := some 24) (v := ?_) (a' := ?_) #[true, false, false, false, false, false] rfl rfl (by kernel_rfl) (fun _ _ _ h => h) (Or.inl ⟨by rfl, ?_⟩) ?_ ?_
              rotate_left
              · intro w'
                go_simp
                with_reducible rfl
              rotate_left
              · simp only [Act.put, List.setIfInBounds_toArray, List.set_cons_zero, List.set_cons_succ, i64_w, i32_w]
                rfl
              refine pure_ (i := 2) (N := some 26) (v := ?_) (a' := ?_) #[true, false, true, false, false, false] rfl rfl (by kernel_rfl) (fun _ _ _ h => h) (Or.inl ⟨by rfl, ?_⟩) ?_ ?_
              rotate_left
              · intro w'
                go_simp
                with_reducible rfl
              rotate_left
              · simp only [Act.put, List.setIfInBounds_toArray, List.set_cons_zero, List.set_cons_succ, i64_w, i32_w]
                rfl
              refine take_ (i := 3) (N := some 27) (v := ?_) (a' := ?_) #[true, false, true, true, false, false] rfl rfl (by kernel_rfl) (fun _ _ _ h => h) (Or.inl ⟨by rfl, ?_⟩) hHeld ?_ ?_
              rotate_left
              · rintro w' ⟨s0, s1, s2, s3, s4, s5, s6, s7, s8⟩
                go_simp
                with_reducible rfl
              rotate_left
              · simp only [Act.put, List.setIfInBounds_toArray, List.set_cons_zero, List.set_cons_succ, i64_w, i32_w]
                rfl
              refine one_ (i := 1) (N := some 25) #[true, true, true, true, false, false] rfl rfl (by kernel_rfl) (by decide) (fun K hK => ?_)
              refine goes_ Try.func20 (by kernel_rfl) rfl #[.slice Ao22 y346.length co22] (by rfl) rfl rfl (by (try simp only [List.map_toArray, List.map_cons, List.map_nil]); first | done | rfl | (simp only [List.length_drop, List.length_take]; rfl)) ?_
              with_reducible refine (entry_Epoch.calls _ _ y346 t349 _ ?side1 ?side2 A12.out).mono ?_
              (case side1 => repeat (first | exact (Kd.R_reads' HO348.out).2.2 | (with_reducible refine Kd.C_alloc ?_ _) | (with_reducible refine Kd.C_drewN ?_ _) | (with_reducible refine Kd.C_drew ?_)))
              (case side2 => exact (Kd.R_reads' HO348.out).2.1)
              rintro e w23 ⟨rfl, hb⟩
              refine ⟨_, rfl, ?_⟩
              have n0_ := Aside0.mk (Kd.R_below (by (with_reducible repeat (first | apply Kd.R_alloc | apply Kd.R_drewN | apply Kd.R_drew)); exact HO345.out) hb)
              have n1_ := Aside0.mk (Kd.R_below (by (with_reducible repeat (first | apply Kd.R_alloc | apply Kd.R_drewN | apply Kd.R_drew)); exact HO348.out) hb)
              have n2_ := Aside0.mk (blk_below (g := gb338) (o := .cells #[.int .i64 a1_0, .int .i64 a1_1, .int .i64 a1_2, .int .i64 a1_3, .int .u64 a1_4, .int .u64 a1_5, .int .i64 a1_6, .int .i64 a1_7, .int .i64 a1_8] 25 (0, 0)) (by (with_reducible repeat (first | refine blk_drewN ?_ _ | refine blk_drew ?_ | refine blk_alloc ?_ _)); exact BK338.out) hb)
              have n3_ := Aside0.mk (below_step (by repeat (first | (with_reducible first | exact HB.out | apply below_alloc | apply pw_below_drewN | apply below_drew1 | refine below_set ?_ GE338.out) | exact HB.out)) hb)
              clear HO345
              clear HO348
              clear BK338
              clear HB
              have HO345 := n0_
              have HO348 := n1_
              have BK338 := n2_
              have HB := n3_
              clear n0_ n1_ n2_ n3_
              (try clear hb)
              (try clear hb2)
              (try clear hk)
              (try clear hi)
              refine hK.out _ _ ⟨(blk_cell BK338.out 0).trans rfl, (blk_cell BK338.out 1).trans rfl, (blk_cell BK338.out 2).trans rfl, (blk_cell BK338.out 3).trans rfl, (blk_cell BK338.out 4).trans rfl, (blk_cell BK338.out 5).trans rfl, (blk_cell BK338.out 6).trans rfl, (blk_cell BK338.out 7).trans rfl, (blk_cell BK338.out 8).trans rfl⟩ (fun hHeld => ?_)
              clear hK K
              refine norm_ (a' := ?_) ?_ ?_
              rotate_left
              · show Act.put _ (some 25) _ = _
                simp only [Act.put, List.setIfInBounds_toArray, List.set_cons_zero, List.set_cons_succ, i64_w, i32_w]
                rfl
              refine pure_ (i := 4) (N := some 28) (v := ?_) (a' := ?_) #[true, true, true, true, true, false] rfl rfl (by kernel_rfl) (fun _ _ _ h => h) (Or.inl ⟨by rfl, ?_⟩) ?_ ?_
              rotate_left
              · intro w'
                go_simp
                with_reducible rfl
              rotate_left
              · simp only [Act.put, List.setIfInBounds_toArray, List.set_cons_zero, List.set_cons_succ, i64_w, i32_w]
                rfl
              refine pure_ (i := 5) (N := some 4) (v := ?_) (a' := ?_) #[true, true, true, true, true, true] rfl rfl (by kernel_rfl) (fun _ _ _ h => h) (Or.inl ⟨by rfl, ?_⟩) ?_ ?_
              rotate_left
              · intro w'
                go_simp
                with_reducible rfl
              rotate_left
              · simp only [Act.put, List.setIfInBounds_toArray, List.set_cons_zero, List.set_cons_succ, i64_w, i32_w]
                rfl
              refine done_ (by kernel_rfl) ?_
              try go_wp2
              go_ret
              exact ⟨by first | rfl | (simp [errW_none, errW_some] <;> rfl) | (simp [*, errW_none, errW_some] <;> rfl), by repeat (first | (with_reducible first | exact HB.out | apply below_alloc | apply pw_below_drewN | apply below_drew1 | refine below_set ?_ GE338.out) | exact HB.out)⟩
            · rw [if_neg c11] at H
              have c11b0 : (a1_0 == 0) = false := beq_eq_false_iff_ne.mpr c11
              have c11b1 : (a1_0 != 0) = true := bne_iff_ne.mpr c11
              replace H := Option.bind_eq_some_iff.mp H
              obtain ⟨t350, A240, H⟩ := H
              replace H : ((entry_Epoch.f l0).bind fun t351 => (some (t350 == t351))) = some r := H
              have A24 := Aside0.mk A240
              clear A240
              replace H := Option.bind_eq_some_iff.mp H
              obtain ⟨t351, A250, H⟩ := H
              replace H : (some (t350 == t351)) = some r := H
              have A25 := Aside0.mk A250
              clear A250
              obtain rfl := Option.some.inj H
              try go_wp2
              have n0_ := Aside0.mk (blk_drew BK338.out)
              have n1_ := Aside0.mk (below_drew1 HB.out)
              clear BK338
              clear HB
              have BK338 := n0_
              have HB := n1_
              clear n0_ n1_
              refine start_ (n := 6) (S := fun w' => w'.cell? ⟨gb338, 0, none⟩ = some (.int .i64 a1_0) ∧ w'.cell? ⟨gb338, 1, none⟩ = some (.int .i64 a1_1) ∧ w'.cell? ⟨gb338, 2, none⟩ = some (.int .i64 a1_2) ∧ w'.cell? ⟨gb338, 3, none⟩ = some (.int .i64 a1_3) ∧ w'.cell? ⟨gb338, 4, none⟩ = some (.int .u64 a1_4) ∧ w'.cell? ⟨gb338, 5, none⟩ = some (.int .u64 a1_5) ∧ w'.cell? ⟨gb338, 6, none⟩ = some (.int .i64 a1_6) ∧ w'.cell? ⟨gb338, 7, none⟩ = some (.int .i64 a1_7) ∧ w'.cell? ⟨gb338, 8, none⟩ = some (.int .i64 a1_8)) (ds := []) #[false, false, false, false, false, false] (by kernel_rfl) rfl rfl ⟨(blk_cell BK338.out 0).trans rfl, (blk_cell BK338.out 1).trans rfl, (blk_cell BK338.out 2).trans rfl, (blk_cell BK338.out 3).trans rfl, (blk_cell BK338.out 4).trans rfl, (blk_cell BK338.out 5).trans rfl, (blk_cell BK338.out 6).trans rfl, (blk_cell BK338.out 7).trans rfl, (blk_cell BK338.out 8).trans rfl⟩ (fun hHeld => ?_)
              generalize wc.drew = w26 at BK338 HB hHeld ⊢
              refine pure_ (i := 0) (N := some 16) (v := ?_) (a' := ?_) #[true, false, false, false, false, false] rfl rfl (by kernel_rfl) (fun _ _ _ h => h) (Or.inl ⟨by rfl, ?_⟩) ?_ ?_
              rotate_left
              · intro w'
                go_simp
                with_reducible rfl
              rotate_left
              · simp only [Act.put, List.setIfInBounds_toArray, List.set_cons_zero, List.set_cons_succ, i64_w, i32_w]
                rfl
              refine take_ (i := 2) (N := some 18) (v := ?_) (a' := ?_) #[true, false, true, false, false, false] rfl rfl (by kernel_rfl) (fun _ _ _ h => h) (Or.inl ⟨by rfl, ?_⟩) hHeld ?_ ?_
              rotate_left
              · rintro w' ⟨s0, s1, s2, s3, s4, s5, s6, s7, s8⟩
                go_simp
                with_reducible rfl
              rotate_left
              · simp only [Act.put, List.setIfInBounds_toArray, List.set_cons_zero, List.set_cons_succ, i64_w, i32_w]
                rfl
              refine join_ (σ := Value × Value) 2 #[true, true, true, true, false, false] (fun s_ => [(17, s_.1), (19, s_.2)]) (fun s_ w' => (w'.cell? ⟨gb338, 0, none⟩ = some (.int .i64 a1_0) ∧ w'.cell? ⟨gb338, 1, none⟩ = some (.int .i64 a1_1) ∧ w'.cell? ⟨gb338, 2, none⟩ = some (.int .i64 a1_2) ∧ w'.cell? ⟨gb338, 3, none⟩ = some (.int .i64 a1_3) ∧ w'.cell? ⟨gb338, 4, none⟩ = some (.int .u64 a1_4) ∧ w'.cell? ⟨gb338, 5, none⟩ = some (.int .u64 a1_5) ∧ w'.cell? ⟨gb338, 6, none⟩ = some (.int .i64 a1_6) ∧ w'.cell? ⟨gb338, 7, none⟩ = some (.int .i64 a1_7) ∧ w'.cell? ⟨gb338, 8, none⟩ = some (.int .i64 a1_8)) ∧ (Kd.R k25 25 w' w.heap.size (fun k_ => some k_ ≠ (s_.2 : Value).ownBlock ∧ k_ ≠ gb338) s_.1 y340) ∧ (Kd.R k25 25 w' w.heap.size (fun k_ => some k_ ≠ (s_.1 : Value).ownBlock ∧ k_ ≠ gb338) s_.2 y343) ∧ (w'.heap[gb338]? = some (.cells #[.int .i64 a1_0, .int .i64 a1_1, .int .i64 a1_2, .int .i64 a1_3, .int .u64 a1_4, .int .u64 a1_5, .int .i64 a1_6, .int .i64 a1_7, .int .i64 a1_8] 25 (0, 0))) ∧ (Below w.heap.size w w')) ?_ ?_
              rotate_left
              · intro hCont
                refine two_ (i := 1) (j := 3) (Ni := some 17) (Nj := some 19) #[true, true, true, false, false, false] #[true, false, true, true, false, false] rfl rfl rfl rfl (by kernel_rfl) (by decide) (by decide) (fun K hK => ?_) (fun K hK => ?_)
                · skip
                  refine Kd.R_append_rows_step k25 (w0 := w) w.heap.size rfl (.const (.slice none 0 0)) (.tmp 16) 27 25 (.agg #[(.int .i64 0), (.int .i64 0), (.int .i64 0), (.int .i64 0), (.int .u64 0), (.int .u64 0), (.int .i64 0), (.int .i64 0), (.int .i64 0)]) 72 rfl Try.underlying27 info25 rfl (by decide) (by omega) (.slice none 0 0) ([] : List (S25)) l0 _ _ _ (fun k_ => k_ ≠ gb338) (fun _ => False) rfl rfl ?aO ?aR (fun _ _ h => h) (fun _ h => h.elim) ?aF ?aB ?aS ?aL ?_
                  (case aR => repeat (first | exact (Kd.C_below HR0.out HB.out) | (with_reducible refine Kd.C_alloc ?_ _) | (with_reducible refine Kd.C_drewN ?_ _) | (with_reducible refine Kd.C_drew ?_)))
                  (case aB => exact (by repeat (first | (with_reducible first | exact HB.out | apply below_alloc | apply pw_below_drewN | apply below_drew1 | refine below_set ?_ GE338.out) | exact HB.out)))
                  (case aF => exact (fun k_ hk => Kd.freshB (g := gb338) (o := .cells #[.int .i64 a1_0, .int .i64 a1_1, .int .i64 a1_2, .int .i64 a1_3, .int .u64 a1_4, .int .u64 a1_5, .int .i64 a1_6, .int .i64 a1_7, .int .i64 a1_8] 25 (0, 0)) (by (with_reducible repeat (first | refine blk_drewN ?_ _ | refine blk_drew ?_ | refine blk_alloc ?_ _)); exact BK338.out) k_ hk))
                  (case aO => exact ((Kd.R_nil _ _ _ _ (fun k_ => k_ ≠ gb338))))
                  (case aS => exact (below_size (by repeat (first | (with_reducible first | exact HB.out | apply below_alloc | apply pw_below_drewN | apply below_drew1 | refine below_set ?_ GE338.out) | exact HB.out))))
                  (case aL => have := LMc9.out; omega)
                  intro v341 w27 ho hb hg hat
                  rw [← Ny340.out] at ho
                  have n0_ := Aside0.mk (blk_grown (g := gb338) (o := .cells #[.int .i64 a1_0, .int .i64 a1_1, .int .i64 a1_2, .int .i64 a1_3, .int .u64 a1_4, .int .u64 a1_5, .int .i64 a1_6, .int .i64 a1_7, .int .i64 a1_8] 25 (0, 0)) (by (with_reducible repeat (first | refine blk_drewN ?_ _ | refine blk_drew ?_ | refine blk_alloc ?_ _)); exact BK338.out) hg (by simp [Value.ownBlock]))
                  have n1_ := Aside0.mk (hb)
                  have n2_ := Aside0.mk (ho)
                  clear BK338
                  clear HB
                  have BK338 := n0_
                  have HB := n1_
                  have HO342 := n2_
                  clear n0_ n1_ n2_
                  clear ho hb hg hat
                  refine hK.out _ _ ⟨(blk_cell BK338.out 0).trans rfl, (blk_cell BK338.out 1).trans rfl, (blk_cell BK338.out 2).trans rfl, (blk_cell BK338.out 3).trans rfl, (blk_cell BK338.out 4).trans rfl, (blk_cell BK338.out 5).trans rfl, (blk_cell BK338.out 6).trans rfl, (blk_cell BK338.out 7).trans rfl, (blk_cell BK338.out 8).trans rfl⟩ (fun hHeld => ?_)
                  clear hK K
                  refine norm_ (a' := ?_) ?_ ?_
                  rotate_left
                  · show Act.put _ (some 17) _ = _
                    simp only [Act.put, List.setIfInBounds_toArray, List.set_cons_zero, List.set_cons_succ, i64_w, i32_w]
                    rfl
                  refine one_ (i := 3) (N := some 19) #[true, true, true, true, false, false] rfl rfl (by kernel_rfl) (by decide) (fun K hK => ?_)
                  refine Kd.R_lit_step k25 _ 25 ?hg (N := 19) ?hd (xs := ([(⟨a1_0, a1_1, a1_2, a1_3, a1_4, a1_5, a1_6, a1_7, a1_8⟩ : S25)] : List (S25))) (inner := [.int .i64 a1_0, .int .i64 a1_1, .int .i64 a1_2, .int .i64 a1_3, .int .u64 a1_4, .int .u64 a1_5, .int .i64 a1_6, .int .i64 a1_7, .int .i64 a1_8]) (ok := fun _ => True) (okp := fun _ => True) ?hr ?hp (fun _ hk => hk) trivial (Below.refl _ _) (Nat.le_refl _) (by simp) ?_; (case hd => rfl); (case hg => rfl); (case hr => first | (go_simp; done) | (go_simp; rfl)); (case hp => exact (Reps.c9 (show Kd.M k25 _ _ _ (⟨a1_0, a1_1, a1_2, a1_3, a1_4, a1_5, a1_6, a1_7, a1_8⟩ : S25) [.int .i64 a1_0, .int .i64 a1_1, .int .i64 a1_2, .int .i64 a1_3, .int .u64 a1_4, .int .u64 a1_5, .int .i64 a1_6, .int .i64 a1_7, .int .i64 a1_8] from (k25_mkM _ _ _ (⟨a1_0, a1_1, a1_2, a1_3, a1_4, a1_5, a1_6, a1_7, a1_8⟩ : S25) )) (Reps.none _ _)))
                  intro v344 w28 ho29 hb hg_ hnew_
                  clear hg_ hnew_
                  (first | rw [← Ny343.out] at ho29 | (simp only [Int.reduceToNat] at ho29; rw [← Ny343.out] at ho29))
                  have n0_ := Aside0.mk (Kd.R_elder' (by (with_reducible repeat (first | apply Kd.R_alloc | apply Kd.R_drewN | apply Kd.R_drew)); exact HO342.out) (Kd.R_base ho29) hb)
                  have n1_ := Aside0.mk (Kd.R_lower (Kd.R_newB (Kd.R_new' ho29 (Kd.R_lt (by (with_reducible repeat (first | apply Kd.R_alloc | apply Kd.R_drewN | apply Kd.R_drew)); exact HO342.out))) (g := gb338) (o := .cells #[.int .i64 a1_0, .int .i64 a1_1, .int .i64 a1_2, .int .i64 a1_3, .int .u64 a1_4, .int .u64 a1_5, .int .i64 a1_6, .int .i64 a1_7, .int .i64 a1_8] 25 (0, 0)) (by (with_reducible repeat (first | refine blk_drewN ?_ _ | refine blk_drew ?_ | refine blk_alloc ?_ _)); exact BK338.out)) (below_size (by repeat (first | (with_reducible first | exact HB.out | apply below_alloc | apply pw_below_drewN | apply below_drew1 | refine below_set ?_ GE338.out) | exact HB.out))))
                  have n2_ := Aside0.mk (blk_below (g := gb338) (o := .cells #[.int .i64 a1_0, .int .i64 a1_1, .int .i64 a1_2, .int .i64 a1_3, .int .u64 a1_4, .int .u64 a1_5, .int .i64 a1_6, .int .i64 a1_7, .int .i64 a1_8] 25 (0, 0)) (by (with_reducible repeat (first | refine blk_drewN ?_ _ | refine blk_drew ?_ | refine blk_alloc ?_ _)); exact BK338.out) hb)
                  have n3_ := Aside0.mk (below_step (by repeat (first | (with_reducible first | exact HB.out | apply below_alloc | apply pw_below_drewN | apply below_drew1 | refine below_set ?_ GE338.out) | exact HB.out)) hb)
                  clear HO342
                  clear BK338
                  clear HB
                  have HO342 := n0_
                  have HO345 := n1_
                  have BK338 := n2_
                  have HB := n3_
                  clear n0_ n1_ n2_ n3_
                  clear hb ho29
                  refine hK.out _ _ ⟨(blk_cell BK338.out 0).trans rfl, (blk_cell BK338.out 1).trans rfl, (blk_cell BK338.out 2).trans rfl, (blk_cell BK338.out 3).trans rfl, (blk_cell BK338.out 4).trans rfl, (blk_cell BK338.out 5).trans rfl, (blk_cell BK338.out 6).trans rfl, (blk_cell BK338.out 7).trans rfl, (blk_cell BK338.out 8).trans rfl⟩ (fun hHeld => ?_)
                  clear hK K
                  refine norm_ (a' := ?_) ?_ ?_
                  rotate_left
                  · show Act.put _ (some 19) _ = _
                    simp only [Act.put, List.setIfInBounds_toArray, List.set_cons_zero, List.set_cons_succ, i64_w, i32_w]
                    rfl
                  exact norm_ (by simp only [putAll, Act.put, List.setIfInBounds_toArray, List.set_cons_zero, List.set_cons_succ]) (hCont (v341, v344) _ ⟨hHeld, (by (with_reducible repeat (first | apply Kd.R_alloc | apply Kd.R_drewN | apply Kd.R_drew)); exact Kd.R_mono HO342.out (fun _ hk => ⟨hk.2, hk.1⟩)), (by (with_reducible repeat (first | apply Kd.R_alloc | apply Kd.R_drewN | apply Kd.R_drew)); exact Kd.R_mono HO345.out (fun _ hk => ⟨hk.1.2, hk.2⟩)), (by (with_reducible repeat (first | refine blk_drewN ?_ _ | refine blk_drew ?_ | refine blk_alloc ?_ _)); exact BK338.out), (by repeat (first | (with_reducible first | exact HB.out | apply below_alloc | apply pw_below_drewN | apply below_drew1 | refine below_set ?_ GE338.out) | exact HB.out))⟩)
                · skip
                  refine Kd.R_lit_step k25 _ 25 ?hg (N := 19) ?hd (xs := ([(⟨a1_0, a1_1, a1_2, a1_3, a1_4, a1_5, a1_6, a1_7, a1_8⟩ : S25)] : List (S25))) (inner := [.int .i64 a1_0, .int .i64 a1_1, .int .i64 a1_2, .int .i64 a1_3, .int .u64 a1_4, .int .u64 a1_5, .int .i64 a1_6, .int .i64 a1_7, .int .i64 a1_8]) (ok := fun _ => True) (okp := fun _ => True) ?hr ?hp (fun _ hk => hk) trivial (Below.refl _ _) (Nat.le_refl _) (by simp) ?_; (case hd => rfl); (case hg => rfl); (case hr => first | (go_simp; done) | (go_simp; rfl)); (case hp => exact (Reps.c9 (show Kd.M k25 _ _ _ (⟨a1_0, a1_1, a1_2, a1_3, a1_4, a1_5, a1_6, a1_7, a1_8⟩ : S25) [.int .i64 a1_0, .int .i64 a1_1, .int .i64 a1_2, .int .i64 a1_3, .int .u64 a1_4, .int .u64 a1_5, .int .i64 a1_6, .int .i64 a1_7, .int .i64 a1_8] from (k25_mkM _ _ _ (⟨a1_0, a1_1, a1_2, a1_3, a1_4, a1_5, a1_6, a1_7, a1_8⟩ : S25) )) (Reps.none _ _)))
                  intro v344 w27 ho28 hb hg_ hnew_
                  clear hg_ hnew_
                  (first | rw [← Ny343.out] at ho28 | (simp only [Int.reduceToNat] at ho28; rw [← Ny343.out] at ho28))
                  have n0_ := Aside0.mk (Kd.R_lower (Kd.R_newB ho28 (g := gb338) (o := .cells #[.int .i64 a1_0, .int .i64 a1_1, .int .i64 a1_2, .int .i64 a1_3, .int .u64 a1_4, .int .u64 a1_5, .int .i64 a1_6, .int .i64 a1_7, .int .i64 a1_8] 25 (0, 0)) (by (with_reducible repeat (first | refine blk_drewN ?_ _ | refine blk_drew ?_ | refine blk_alloc ?_ _)); exact BK338.out)) (below_size (by repeat (first | (with_reducible first | exact HB.out | apply below_alloc | apply pw_below_drewN | apply below_drew1 | refine below_set ?_ GE338.out) | exact HB.out))))
                  have n1_ := Aside0.mk (blk_below (g := gb338) (o := .cells #[.int .i64 a1_0, .int .i64 a1_1, .int .i64 a1_2, .int .i64 a1_3, .int .u64 a1_4, .int .u64 a1_5, .int .i64 a1_6, .int .i64 a1_7, .int .i64 a1_8] 25 (0, 0)) (by (with_reducible repeat (first | refine blk_drewN ?_ _ | refine blk_drew ?_ | refine blk_alloc ?_ _)); exact BK338.out) hb)
                  have n2_ := Aside0.mk (below_step (by repeat (first | (with_reducible first | exact HB.out | apply below_alloc | apply pw_below_drewN | apply below_drew1 | refine below_set ?_ GE338.out) | exact HB.out)) hb)
                  clear BK338
                  clear HB
                  have HO345 := n0_
                  have BK338 := n1_
                  have HB := n2_
                  clear n0_ n1_ n2_
                  clear hb ho28
                  refine hK.out _ _ ⟨(blk_cell BK338.out 0).trans rfl, (blk_cell BK338.out 1).trans rfl, (blk_cell BK338.out 2).trans rfl, (blk_cell BK338.out 3).trans rfl, (blk_cell BK338.out 4).trans rfl, (blk_cell BK338.out 5).trans rfl, (blk_cell BK338.out 6).trans rfl, (blk_cell BK338.out 7).trans rfl, (blk_cell BK338.out 8).trans rfl⟩ (fun hHeld => ?_)
                  clear hK K
                  refine norm_ (a' := ?_) ?_ ?_
                  rotate_left
                  · show Act.put _ (some 19) _ = _
                    simp only [Act.put, List.setIfInBounds_toArray, List.set_cons_zero, List.set_cons_succ, i64_w, i32_w]
                    rfl
                  refine one_ (i := 1) (N := some 17) #[true, true, true, true, false, false] rfl rfl (by kernel_rfl) (by decide) (fun K hK => ?_)
                  refine Kd.R_append_rows_step k25 (w0 := w) w.heap.size rfl (.const (.slice none 0 0)) (.tmp 16) 27 25 (.agg #[(.int .i64 0), (.int .i64 0), (.int .i64 0), (.int .i64 0), (.int .u64 0), (.int .u64 0), (.int .i64 0), (.int .i64 0), (.int .i64 0)]) 72 rfl Try.underlying27 info25 rfl (by decide) (by omega) (.slice none 0 0) ([] : List (S25)) l0 _ _ _ (fun k_ => some k_ ≠ (v344 : Value).ownBlock ∧ k_ ≠ gb338) (fun _ => False) rfl rfl ?aO ?aR (fun _ _ h => h) (fun _ h => h.elim) ?aF ?aB ?aS ?aL ?_
                  (case aR => repeat (first | exact (Kd.C_below HR0.out HB.out) | (with_reducible refine Kd.C_alloc ?_ _) | (with_reducible refine Kd.C_drewN ?_ _) | (with_reducible refine Kd.C_drew ?_)))
                  (case aB => exact (by repeat (first | (with_reducible first | exact HB.out | apply below_alloc | apply pw_below_drewN | apply below_drew1 | refine below_set ?_ GE338.out) | exact HB.out)))
                  (case aF => exact (fun k_ hk => ⟨Kd.fresh' (Kd.R_lt (by (with_reducible repeat (first | apply Kd.R_alloc | apply Kd.R_drewN | apply Kd.R_drew)); exact HO345.out)) k_ hk, Kd.freshB (g := gb338) (o := .cells #[.int .i64 a1_0, .int .i64 a1_1, .int .i64 a1_2, .int .i64 a1_3, .int .u64 a1_4, .int .u64 a1_5, .int .i64 a1_6, .int .i64 a1_7, .int .i64 a1_8] 25 (0, 0)) (by (with_reducible repeat (first | refine blk_drewN ?_ _ | refine blk_drew ?_ | refine blk_alloc ?_ _)); exact BK338.out) k_ hk⟩))
                  (case aO => exact ((Kd.R_nil _ _ _ _ (fun k_ => some k_ ≠ (v344 : Value).ownBlock ∧ k_ ≠ gb338))))
                  (case aS => exact (below_size (by repeat (first | (with_reducible first | exact HB.out | apply below_alloc | apply pw_below_drewN | apply below_drew1 | refine below_set ?_ GE338.out) | exact HB.out))))
                  (case aL => have := LMc9.out; omega)
                  intro v341 w29 ho hb hg hat
                  rw [← Ny340.out] at ho
                  have n0_ := Aside0.mk (blk_grown (g := gb338) (o := .cells #[.int .i64 a1_0, .int .i64 a1_1, .int .i64 a1_2, .int .i64 a1_3, .int .u64 a1_4, .int .u64 a1_5, .int .i64 a1_6, .int .i64 a1_7, .int .i64 a1_8] 25 (0, 0)) (by (with_reducible repeat (first | refine blk_drewN ?_ _ | refine blk_drew ?_ | refine blk_alloc ?_ _)); exact BK338.out) hg (by simp [Value.ownBlock]))
                  have n1_ := Aside0.mk (Kd.R_after (Kd.R_apart_nil (by (with_reducible repeat (first | apply Kd.R_alloc | apply Kd.R_drewN | apply Kd.R_drew)); exact HO345.out)) hg hat)
                  have n2_ := Aside0.mk (hb)
                  have n3_ := Aside0.mk (ho)
                  clear BK338
                  clear HO345
                  clear HB
                  have BK338 := n0_
                  have HO345 := n1_
                  have HB := n2_
                  have HO342 := n3_
                  clear n0_ n1_ n2_ n3_
                  clear ho hb hg hat
                  refine hK.out _ _ ⟨(blk_cell BK338.out 0).trans rfl, (blk_cell BK338.out 1).trans rfl, (blk_cell BK338.out 2).trans rfl, (blk_cell BK338.out 3).trans rfl, (blk_cell BK338.out 4).trans rfl, (blk_cell BK338.out 5).trans rfl, (blk_cell BK338.out 6).trans rfl, (blk_cell BK338.out 7).trans rfl, (blk_cell BK338.out 8).trans rfl⟩ (fun hHeld => ?_)
                  clear hK K
                  refine norm_ (a' := ?_) ?_ ?_
                  rotate_left
                  · show Act.put _ (some 17) _ = _
                    simp only [Act.put, List.setIfInBounds_toArray, List.set_cons_zero, List.set_cons_succ, i64_w, i32_w]
                    rfl
                  exact norm_ (by simp only [putAll, Act.put, List.setIfInBounds_toArray, List.set_cons_zero, List.set_cons_succ]) (hCont (v341, v344) _ ⟨hHeld, (by (with_reducible repeat (first | apply Kd.R_alloc | apply Kd.R_drewN | apply Kd.R_drew)); exact HO342.out), (by (with_reducible repeat (first | apply Kd.R_alloc | apply Kd.R_drewN | apply Kd.R_drew)); exact Kd.R_mono HO345.out (fun _ hk => ⟨hk.2, hk.1.2⟩)), (by (with_reducible repeat (first | refine blk_drewN ?_ _ | refine blk_drew ?_ | refine blk_alloc ?_ _)); exact BK338.out), (by repeat (first | (with_reducible first | exact HB.out | apply below_alloc | apply pw_below_drewN | apply below_drew1 | refine below_set ?_ GE338.out) | exact HB.out))⟩)
              rintro ⟨v341, v344⟩ w30 ⟨hS_, h0_, h1_, h2_, h3_⟩
              have n0_ : Aside0 (Kd.R k25 25 w30 w.heap.size (fun k_ => some k_ ≠ (v344 : Value).ownBlock ∧ k_ ≠ gb338) v341 y340) := ⟨h0_⟩
              have n1_ : Aside0 (Kd.R k25 25 w30 w.heap.size (fun k_ => some k_ ≠ (v341 : Value).ownBlock ∧ k_ ≠ gb338) v344 y343) := ⟨h1_⟩
              have n2_ : Aside0 (w30.heap[gb338]? = some (.cells #[.int .i64 a1_0, .int .i64 a1_1, .int .i64 a1_2, .int .i64 a1_3, .int .u64 a1_4, .int .u64 a1_5, .int .i64 a1_6, .int .i64 a1_7, .int .i64 a1_8] 25 (0, 0))) := ⟨h2_⟩
              have n3_ : Aside0 (Below w.heap.size w w30) := ⟨h3_⟩
              clear BK338
              clear HB
              clear h0_ h1_ h2_ h3_
              have HO342 := n0_
              have HO345 := n1_
              have BK338 := n2_
              have HB := n3_
              clear n0_ n1_ n2_ n3_
              have hHeld : w30.cell? ⟨gb338, 0, none⟩ = some (.int .i64 a1_0) ∧ w30.cell? ⟨gb338, 1, none⟩ = some (.int .i64 a1_1) ∧ w30.cell? ⟨gb338, 2, none⟩ = some (.int .i64 a1_2) ∧ w30.cell? ⟨gb338, 3, none⟩ = some (.int .i64 a1_3) ∧ w30.cell? ⟨gb338, 4, none⟩ = some (.int .u64 a1_4) ∧ w30.cell? ⟨gb338, 5, none⟩ = some (.int .u64 a1_5) ∧ w30.cell? ⟨gb338, 6, none⟩ = some (.int .i64 a1_6) ∧ w30.cell? ⟨gb338, 7, none⟩ = some (.int .i64 a1_7) ∧ w30.cell? ⟨gb338, 8, none⟩ = some (.int .i64 a1_8) := hS_
              obtain ⟨Ao32, co32, eo32⟩ := Kd.R_slice HO345.out
              (first | subst eo32 | (injection eo32 with f1_ f2_ f3_; have f4_ := f1_.symm; have f5_ := f3_.symm; clear f1_ f2_ f3_; subst f4_; subst f5_))
              refine norm_ (a' := ?_) ?_ ?_
              rotate_left
              · simp only [putAll, Act.put, List.setIfInBounds_toArray, List.set_cons_zero, List.set_cons_succ]
                rfl
              refine one_ (i := 4) (N := some 20) #[true, true, true, true, true, false] rfl rfl (by kernel_rfl) (by decide) (fun K hK => ?_)
              refine Kd.R_append_rows_step k25 (w0 := w) w.heap.size (by rfl) (.tmp 17) (.tmp 19) 27 25 (.agg #[(.int .i64 0), (.int .i64 0), (.int .i64 0), (.int .i64 0), (.int .u64 0), (.int .u64 0), (.int .i64 0), (.int .i64 0), (.int .i64 0)]) 72 rfl Try.underlying27 info25 rfl (by decide) (by omega) v341 y340 y343 _ _ _ (fun k_ => some k_ ≠ (.slice Ao32 y343.length co32 : Value).ownBlock ∧ k_ ≠ gb338) (fun _ => False) rfl rfl ?aO ?aR (fun _ _ h => h) (fun _ h => h.elim) ?aF ?aB ?aS ?aL ?_
              (case aR => repeat (first | exact (Kd.R_reads' HO345.out).2.2 | (with_reducible refine Kd.C_alloc ?_ _) | (with_reducible refine Kd.C_drewN ?_ _) | (with_reducible refine Kd.C_drew ?_)))
              (case aB => exact (by repeat (first | (with_reducible first | exact HB.out | apply below_alloc | apply pw_below_drewN | apply below_drew1 | refine below_set ?_ GE338.out) | exact HB.out)))
              (case aF => exact (fun k_ hk => ⟨Kd.fresh' (Kd.R_lt (by (with_reducible repeat (first | apply Kd.R_alloc | apply Kd.R_drewN | apply Kd.R_drew)); exact HO345.out)) k_ hk, Kd.freshB (g := gb338) (o := .cells #[.int .i64 a1_0, .int .i64 a1_1, .int .i64 a1_2, .int .i64 a1_3, .int .u64 a1_4, .int .u64 a1_5, .int .i64 a1_6, .int .i64 a1_7, .int .i64 a1_8] 25 (0, 0)) (by (with_reducible repeat (first | refine blk_drewN ?_ _ | refine blk_drew ?_ | refine blk_alloc ?_ _)); exact BK338.out) k_ hk⟩))
              (case aO => exact (by (with_reducible repeat (first | apply Kd.R_alloc | apply Kd.R_drewN | apply Kd.R_drew)); exact HO342.out))
              (case aS => exact (below_size (by repeat (first | (with_reducible first | exact HB.out | apply below_alloc | apply pw_below_drewN | apply below_drew1 | refine below_set ?_ GE338.out) | exact HB.out))))
              (case aL => have := LMc10.out; omega)
              intro v347 w31 ho hb hg hat
              rw [← Ny346.out] at ho
              have n0_ := Aside0.mk (blk_grown (g := gb338) (o := .cells #[.int .i64 a1_0, .int .i64 a1_1, .int .i64 a1_2, .int .i64 a1_3, .int .u64 a1_4, .int .u64 a1_5, .int .i64 a1_6, .int .i64 a1_7, .int .i64 a1_8] 25 (0, 0)) (by (with_reducible repeat (first | refine blk_drewN ?_ _ | refine blk_drew ?_ | refine blk_alloc ?_ _)); exact BK338.out) hg (Kd.R_away HO342.out (fun _ hk => hk.2)))
              have n1_ := Aside0.mk (Kd.R_after (ok := (fun k_ => k_ ≠ gb338)) (by (with_reducible repeat (first | apply Kd.R_alloc | apply Kd.R_drewN | apply Kd.R_drew)); exact Kd.R_mono HO345.out (fun _ hk => ⟨hk.2, hk.1⟩)) hg hat)
              have n2_ := Aside0.mk (hb)
              have n3_ := Aside0.mk (ho)
              clear BK338
              clear HO345
              clear HB
              clear HO342
              have BK338 := n0_
              have HO345 := n1_
              have HB := n2_
              have HO348 := n3_
              clear n0_ n1_ n2_ n3_
              clear ho hb hg hat
              refine hK.out _ _ ⟨(blk_cell BK338.out 0).trans rfl, (blk_cell BK338.out 1).trans rfl, (blk_cell BK338.out 2).trans rfl, (blk_cell BK338.out 3).trans rfl, (blk_cell BK338.out 4).trans rfl, (blk_cell BK338.out 5).trans rfl, (blk_cell BK338.out 6).trans rfl, (blk_cell BK338.out 7).trans rfl, (blk_cell BK338.out 8).trans rfl⟩ (fun hHeld => ?_)
              clear hK K
              refine norm_ (a' := ?_) ?_ ?_
              rotate_left
              · show Act.put _ (some 20) _ = _
                simp only [Act.put, List.setIfInBounds_toArray, List.set_cons_zero, List.set_cons_succ, i64_w, i32_w]
                rfl
              refine pure_ (i := 5) (N := some 6) (v := ?_) (a' := ?_) #[true, true, true, true, true, true] rfl rfl (by kernel_rfl) (fun _ _ _ h => h) (Or.inl ⟨by rfl, ?_⟩) ?_ ?_
              rotate_left
              · intro w'
                go_simp
                with_reducible rfl
              rotate_left
              · simp only [Act.put, List.setIfInBounds_toArray, List.set_cons_zero, List.set_cons_succ, i64_w, i32_w]
                rfl
              refine done_ (by kernel_rfl) ?_
              have hcz33_0 : w31.cell? ⟨gb338, 0, none⟩ = some (.int .i64 a1_0) := (blk_cell BK338.out 0).trans rfl
              have hcz33_1 : w31.cell? ⟨gb338, 1, none⟩ = some (.int .i64 a1_1) := (blk_cell BK338.out 1).trans rfl
              have hcz33_2 : w31.cell? ⟨gb338, 2, none⟩ = some (.int .i64 a1_2) := (blk_cell BK338.out 2).trans rfl
              have hcz33_3 : w31.cell? ⟨gb338, 3, none⟩ = some (.int .i64 a1_3) := (blk_cell BK338.out 3).trans rfl
              have hcz33_4 : w31.cell? ⟨gb338, 4, none⟩ = some (.int .u64 a1_4) := (blk_cell BK338.out 4).trans rfl
              have hcz33_5 : w31.cell? ⟨gb338, 5, none⟩ = some (.int .u64 a1_5) := (blk_cell BK338.out 5).trans rfl
              have hcz33_6 : w31.cell? ⟨gb338, 6, none⟩ = some (.int .i64 a1_6) := (blk_cell BK338.out 6).trans rfl
              have hcz33_7 : w31.cell? ⟨gb338, 7, none⟩ = some (.int .i64 a1_7) := (blk_cell BK338.out 7).trans rfl
              have hcz33_8 : w31.cell? ⟨gb338, 8, none⟩ = some (.int .i64 a1_8) := (blk_cell BK338.out 8).trans rfl
              have hfz33_0 := blk_frozen BK338.out 0
              have hfz33_1 := blk_frozen BK338.out 1
              have hfz33_2 := blk_frozen BK338.out 2
              have hfz33_3 := blk_frozen BK338.out 3
              have hfz33_4 := blk_frozen BK338.out 4
              have hfz33_5 := blk_frozen BK338.out 5
              have hfz33_6 := blk_frozen BK338.out 6
              have hfz33_7 := blk_frozen BK338.out 7
              have hfz33_8 := blk_frozen BK338.out 8
              obtain ⟨Ao34, co34, eo34⟩ := Kd.R_slice HO348.out
              subst eo34
              try go_wp2_with (first | ((with_reducible refine gate_callee (f := 20) rfl ?_); refine goesL_ (some 30) rfl rfl Try.func20 (by kernel_rfl) rfl #[.slice Ao34 y346.length co34] rfl (by (try simp only [List.map_toArray, List.map_cons, List.map_nil]); first | done | rfl | (simp only [List.length_drop, List.length_take]; rfl)) ?_; (with_reducible refine (entry_Epoch.calls _ _ y346 t350 _ ?side1 ?side2 A24.out).mono ?_); (case side1 => repeat (first | exact (Kd.R_reads' HO348.out).2.2 | (with_reducible refine Kd.C_alloc ?_ _) | (with_reducible refine Kd.C_drewN ?_ _) | (with_reducible refine Kd.C_drew ?_))); (case side2 => exact (Kd.R_reads' HO348.out).2.1); rintro e w35 ⟨rfl, hb⟩; refine ⟨_, rfl, ?_⟩; have n0_ := Aside0.mk (Kd.R_below (by (with_reducible repeat (first | apply Kd.R_alloc | apply Kd.R_drewN | apply Kd.R_drew)); exact HO345.out) hb); have n1_ := Aside0.mk (Kd.R_below (by (with_reducible repeat (first | apply Kd.R_alloc | apply Kd.R_drewN | apply Kd.R_drew)); exact HO348.out) hb); have n2_ := Aside0.mk (blk_below (g := gb338) (o := .cells #[.int .i64 a1_0, .int .i64 a1_1, .int .i64 a1_2, .int .i64 a1_3, .int .u64 a1_4, .int .u64 a1_5, .int .i64 a1_6, .int .i64 a1_7, .int .i64 a1_8] 25 (0, 0)) (by (with_reducible repeat (first | refine blk_drewN ?_ _ | refine blk_drew ?_ | refine blk_alloc ?_ _)); exact BK338.out) hb); have n3_ := Aside0.mk (below_step (by repeat (first | (with_reducible first | exact HB.out | apply below_alloc | apply pw_below_drewN | apply below_drew1 | refine below_set ?_ GE338.out) | exact HB.out)) hb); clear HO345; clear HO348; clear BK338; clear HB; have HO345 := n0_; have HO348 := n1_; have BK338 := n2_; have HB := n3_; clear n0_ n1_ n2_ n3_; (try clear hb); (try clear hb2); (try clear hk); (try clear hi)) | ((with_reducible refine gate_callee (f := 20) rfl ?_); refine goesL_ (some 32) rfl rfl Try.func20 (by kernel_rfl) rfl #[.slice A0 l0.length c0] rfl (by (try simp only [List.map_toArray, List.map_cons, List.map_nil]); first | done | rfl | (simp only [List.length_drop, List.length_take]; rfl)) ?_; (with_reducible refine (entry_Epoch.calls _ _ l0 t351 _ ?side1 ?side2 A25.out).mono ?_); (case side1 => repeat (first | exact (Kd.C_below HR0.out HB.out) | (with_reducible refine Kd.C_alloc ?_ _) | (with_reducible refine Kd.C_drewN ?_ _) | (with_reducible refine Kd.C_drew ?_))); (case side2 => exact HC0.out); rintro e w36 ⟨rfl, hb⟩; refine ⟨_, rfl, ?_⟩; have n0_ := Aside0.mk (Kd.R_below (by (with_reducible repeat (first | apply Kd.R_alloc | apply Kd.R_drewN | apply Kd.R_drew)); exact HO345.out) hb); have n1_ := Aside0.mk (Kd.R_below (by (with_reducible repeat (first | apply Kd.R_alloc | apply Kd.R_drewN | apply Kd.R_drew)); exact HO348.out) hb); have n2_ := Aside0.mk (blk_below (g := gb338) (o := .cells #[.int .i64 a1_0, .int .i64 a1_1, .int .i64 a1_2, .int .i64 a1_3, .int .u64 a1_4, .int .u64 a1_5, .int .i64 a1_6, .int .i64 a1_7, .int .i64 a1_8] 25 (0, 0)) (by (with_reducible repeat (first | refine blk_drewN ?_ _ | refine blk_drew ?_ | refine blk_alloc ?_ _)); exact BK338.out) hb); have n3_ := Aside0.mk (below_step (by repeat (first | (with_reducible first | exact HB.out | apply below_alloc | apply pw_below_drewN | apply below_drew1 | refine below_set ?_ GE338.out) | exact HB.out)) hb); clear HO345; clear HO348; clear BK338; clear HB; have HO345 := n0_; have HO348 := n1_; have BK338 := n2_; have HB := n3_; clear n0_ n1_ n2_ n3_; (try clear hb); (try clear hb2); (try clear hk); (try clear hi)))
              go_ret
              exact ⟨by first | rfl | (simp [errW_none, errW_some] <;> rfl) | (simp [*, errW_none, errW_some] <;> rfl), by repeat (first | (with_reducible first | exact HB.out | apply below_alloc | apply pw_below_drewN | apply below_drew1 | refine below_set ?_ GE338.out) | exact HB.out)⟩
          · rw [if_neg c10] at H
            exact absurd H (by simp)
        · rw [if_neg c9] at H
          exact absurd H (by simp)

end Go.Proofs.Ytphfejboahcnhaa.P
