/- What LawSymAgree rests on, part 15: several texts put together. -/
import Derived.Test.YtdinphnljokigaaGreatS14
import Derived.Test.YtdinphnljokigaaGreatS3
set_option linter.unusedVariables false
set_option linter.unnecessarySimpa false
set_option linter.unusedSimpArgs false
set_option maxRecDepth 100000
section
namespace Go.Proofs.YtdinphnljokigaaGreat.P
open Go.RowKit Go.Lib Go.Proofs.YtdinphnljokigaaGreatW.PrintWords Go.Proofs.YtdinphnljokigaaGreatW.PrintLast Go.Proofs.YtdinphnljokigaaGreatW.PrintMore
def num_Cat.l0 : Nat → List Int → List (S41) → Int → Int → Option (List Int × Bool)
 | 0, _, _, _, _ => none
 | k + 1, x4, x12, x13, x14 => if x14 < x13 then (if 0 ≤ x14 then (if x14 < (x12.length : Int) then ((num_Put.f ((rd_T41 x12 x14).f0) ((rd_T41 x12 x14).f1)).bind fun bt173 => (if bt173.2 = true then (if x4.length + bt173.1.length < 140737488355328 then (num_Cat.l0 k (x4 ++ bt173.1) x12 x13 (wrap64 (x14 + 1))) else (none)) else (some (([] : List Int), false)))) else (none)) else (none)) else (some (x4, true))
def num_Cat.f (k : Nat) (l0 : List (S41)) : Option (List Int × Bool) := if (l0.length : Int) > 40 then (some (([] : List Int), false)) else (num_Cat.l0 k ([] : List Int) l0 (l0.length : Int) 0)
set_option maxHeartbeats 8000000 in
set_option maxRecDepth 100000 in
theorem num_Cat.calls (k : Nat) (A0 : Option Addr) (c0 : Nat) (l0 : List (S41)) (r1 : List Int) (r2 : Bool) (w : World) (hr0 : Kd.C k41 w A0 l0.length l0) (hc0 : l0.length ≤ c0) (h : num_Cat.f k l0 = some (r1, r2)) :
  Calls Tryz.prog 110 #[.slice A0 l0.length c0] w fun e w' => ∃ v0_ : Value, e = .returned (.tuple #[v0_, .bool r2]) ∧ Kd.R (Kd.int .u8) 5 w' w.heap.size (fun _ => True) v0_ r1 ∧ Below w.heap.size w w' := by
 have hu41 := Tryz.underlying140
 have HR0 := aq_ hr0
 have HC0 := aq_ hc0
 clear hr0 hc0
 have HB := aq_ (Below.refl w.heap.size w)
 have H : (if (l0.length : Int) > 40 then (some (([] : List Int), false)) else (num_Cat.l0 k ([] : List Int) l0 (l0.length : Int) 0)) = some (r1, r2) := h
 clear h
 by_cases c2 : (l0.length : Int) > 40
 ·rw [if_pos c2] at H
  have c2b0 : decide (40 < (l0.length : Int)) = true := decide_eq_true c2
  have c2b1 : decide (40 < l0.length) = true := decide_eq_true (by omega)
  clear c2
  simp only [Option.some.injEq, Prod.mk.injEq] at H
  obtain ⟨rfl, rfl⟩ := H
  go_enter Tryz.func110, Tryz.ntmps110
  go_wp2
  go_ret2
  exact ⟨_, by first | rfl | (simp [errW_none, errW_some] <;> rfl) | (simp [*, errW_none, errW_some] <;> rfl), by first | exact Kd.R_nil _ _ _ _ _ | exact Kd.N_nil _ _ _ _ _ | exact Kd.V_nil _ _ _ _ _ | exact Kd.Q_nil _ _ _ _ _ | exact Kd.S_nil _ _ _ _ _, by repeat (first | (with_reducible first | exact HB.out | apply below_alloc | apply pw_below_drewN | apply below_drew1) | exact HB.out)⟩
 ·rw [if_neg c2] at H
  have c2b0 : decide (40 < (l0.length : Int)) = false := decide_eq_false c2
  have c2b1 : decide (40 < l0.length) = false := decide_eq_false (by omega)
  clear c2
  have H' := aq_ H
  clear H
  go_enter Tryz.func110, Tryz.ntmps110
  go_wp2
  go_loopg [4, 14] k (fun kq v4 v14 w' => ∃ (x4_1 : List Int) (x14_1 : Int), v14 = .int .i64 x14_1 ∧ Aside0 (num_Cat.l0 kq x4_1 l0 (l0.length : Int) x14_1 = some (r1, r2)) ∧ Aside0 (kq ≤ k) ∧ Aside0 (Kd.R (Kd.int .u8) 5 w' w.heap.size (fun _ => True) v4 x4_1) ∧ Aside0 (Below w.heap.size w w'))
  case atStart => exact ⟨(([] : List Int)), (0), (by first | rfl | (simp; done) | (simp [*]; done)), H', ⟨Nat.le_refl _⟩, ⟨by first | exact Kd.R_nil _ _ _ _ _ | exact Kd.N_nil _ _ _ _ _ | exact Kd.V_nil _ _ _ _ _ | exact Kd.Q_nil _ _ _ _ _ | exact Kd.S_nil _ _ _ _ _⟩, ⟨by repeat (first | (with_reducible first | exact HB.out | apply below_alloc | apply pw_below_drewN | apply below_drew1) | exact HB.out)⟩⟩
  case round =>
   clear H'
   try clear c1
   try clear c2
   try clear c2b0
   try clear c2b1
   try clear p2
   obtain ⟨x4_1, x14_1, rfl, HA, HK1, HO_4, HB⟩ := hrel
   cases gk with
   | zero => exact absurd HA.out (by simp [num_Cat.l0])
   | succ k1 =>
    have H := HA.out
    clear HA
    simp only [num_Cat.l0] at H
    by_cases c3 : x14_1 < (l0.length : Int)
    ·rw [if_pos c3] at H
     have c3b0 : decide (x14_1 < (l0.length : Int)) = true := decide_eq_true c3
     clear c3
     by_cases c4 : 0 ≤ x14_1
     ·rw [if_pos c4] at H
      have c4b0 : decide (0 ≤ x14_1) = true := decide_eq_true c4
      clear c4
      by_cases c5 : x14_1 < (l0.length : Int)
      ·rw [if_pos c5] at H
       have c5b0 : decide (x14_1 < (l0.length : Int)) = true := decide_eq_true c5
       clear c5
       replace H := Option.bind_eq_some_iff.mp H
       obtain ⟨⟨t173, t174⟩, A60, H⟩ := H
       replace H : (if t174 = true then (if x4_1.length + t173.length < 140737488355328 then (num_Cat.l0 k1 (x4_1 ++ t173) l0 (l0.length : Int) (wrap64 (x14_1 + 1))) else (none)) else (some (([] : List Int), false))) = some (r1, r2) := H
       have A6 := aq_ A60
       clear A60
       by_cases c7 : t174 = true
       ·subst c7
        have H1 : (if x4_1.length + t173.length < 140737488355328 then (num_Cat.l0 k1 (x4_1 ++ t173) l0 (l0.length : Int) (wrap64 (x14_1 + 1))) else (none)) = some (r1, r2) := by rw [if_pos rfl] at H; exact H
        clear H
        have H := H1
        clear H1
        by_cases c8 : x4_1.length + t173.length < 140737488355328
        ·rw [if_pos c8] at H
         have LMc8 := aq_ c8
         clear c8
         obtain ⟨y177, hy177⟩ : ∃ y_ : List Int, y_ = (x4_1 ++ t173) := ⟨_, rfl⟩
         replace H : (num_Cat.l0 k1 y177 l0 (l0.length : Int) (wrap64 (x14_1 + 1))) = some (r1, r2) := by first | (rw [hy177]; with_reducible exact H) | (have H2_ := (Option.bind_some _ _).symm.trans H; rw [hy177]; with_reducible exact H2_) | (have H2_ := (Option.bind_some _ _).symm.trans H; with_reducible exact H2_) | with_reducible exact H | (rw [hy177]; exact H) | exact H
         have Ny177 := aq_ hy177
         clear hy177
         have H' := aq_ H
         clear H
         have p171 : 0 ≤ (x14_1 : Int) := of_decide_eq_true (by first | (with_reducible assumption) | assumption)
         have q171 : x14_1 < (l0.length : Int) := of_decide_eq_true (by first | (with_reducible assumption) | assumption)
         obtain ⟨ad171, e171, hx171_0, hx171_1⟩ := at_T41 HR0.out x14_1 p171 q171
         cases e171
         replace hx171_0 := (HB.out.cell (World.block_lt_of_cell? w _ hx171_0)).trans hx171_0
         replace hx171_1 := (HB.out.cell (World.block_lt_of_cell? w _ hx171_1)).trans hx171_1
         replace p171 := eq_true p171
         replace q171 := eq_true q171
         go_wp2_with (first | ((with_reducible refine gate_dst (N := 6) rfl ?_); refine box_event ?hg (N := 6) ?hd (cs := #[.int .u64 0, .int .i64 0]) (t := 140) ?hr ?_; (case hd => rfl); (case hg => rfl); (case hr => first | (go_simp; done) | (go_simp; rfl)); intro gb172 hg w9 hbox hb; have n0_ := aq_ (Kd.R_below (by (with_reducible repeat (first | apply Kd.R_alloc | apply Kd.R_drewN | apply Kd.R_drew)); exact HO_4.out) hb); have n1_ := aq_ (below_step (by repeat (first | (with_reducible first | exact HB.out | apply below_alloc | apply pw_below_drewN | apply below_drew1) | exact HB.out)) hb); have n2_ := aq_ (hbox); have n3_ := aq_ ((by rw [hg]; exact (below_size (by repeat (first | (with_reducible first | exact HB.out | apply below_alloc | apply pw_below_drewN | apply below_drew1) | exact HB.out))) : w.heap.size ≤ gb172)); have n4_ := aq_ ((by rw [hg]; exact (below_size (by repeat (first | (with_reducible first | exact HB.out | apply below_alloc | apply pw_below_drewN | apply below_drew1) | exact HB.out))) : w.heap.size ≤ gb172)); clear HO_4; clear HB; have HO_4 := n0_; have HB := n1_; have BK172 := n2_; have GW172 := n3_; have GE172 := n4_; clear n0_ n1_ n2_ n3_ n4_; clear hb hbox hg; have hcz10_0 : w9.cell? ⟨gb172, 0, none⟩ = some (.int .u64 0) := (blk_cell BK172.out 0).trans rfl; have hcz10_1 : w9.cell? ⟨gb172, 1, none⟩ = some (.int .i64 0) := (blk_cell BK172.out 1).trans rfl; have hfz10_0 := blk_frozen BK172.out 0; have hfz10_1 := blk_frozen BK172.out 1) | ((with_reducible refine gate_callee (f := 113) rfl ?_); refine goesL_ (some 23) rfl rfl Tryz.func113 (by kernel_rfl) rfl #[.int .u64 ((rd_T41 l0 x14_1).f0), .int .i64 ((rd_T41 l0 x14_1).f1)] rfl (by (try simp only [List.map_toArray, List.map_cons, List.map_nil]); first | done | rfl | (simp only [List.length_drop, List.length_take]; rfl)) ?_; (with_reducible refine (num_Put.calls ((rd_T41 l0 x14_1).f0) ((rd_T41 l0 x14_1).f1) t173 true _ A6.out).mono ?_); rintro e w11 ⟨v175, rfl, ho0, hb⟩; refine ⟨_, rfl, ?_⟩; have n0_ := aq_ (Kd.R_elder' (by (with_reducible repeat (first | apply Kd.R_alloc | apply Kd.R_drewN | apply Kd.R_drew)); exact (Kd.R_mono (Kd.R_far (p := ⟨gb172, 1, none⟩) (Kd.R_far (p := ⟨gb172, 0, none⟩) (Kd.R_types HO_4.out BK172.out (by decide)) (fun _ hk => hk.2) (.int .u64 ((rd_T41 l0 x14_1).f0))) (fun _ hk => hk.2) (.int .i64 ((rd_T41 l0 x14_1).f1))) (fun _ h_ => h_.1))) (Kd.R_base ho0) hb); have n1_ := aq_ (Kd.R_lower (Kd.R_new' ho0 (Kd.R_lt (by (with_reducible repeat (first | apply Kd.R_alloc | apply Kd.R_drewN | apply Kd.R_drew)); exact (Kd.R_mono (Kd.R_far (p := ⟨gb172, 1, none⟩) (Kd.R_far (p := ⟨gb172, 0, none⟩) (Kd.R_types HO_4.out BK172.out (by decide)) (fun _ hk => hk.2) (.int .u64 ((rd_T41 l0 x14_1).f0))) (fun _ hk => hk.2) (.int .i64 ((rd_T41 l0 x14_1).f1))) (fun _ h_ => h_.1))))) (below_size (by repeat (first | (with_reducible first | exact HB.out | apply below_alloc | apply pw_below_drewN | apply below_drew1 | refine below_set ?_ GE172.out) | exact HB.out)))); have n2_ := aq_ (blk_below (g := gb172) (o := .cells #[.int .u64 ((rd_T41 l0 x14_1).f0), .int .i64 ((rd_T41 l0 x14_1).f1)] 140 (0, 0)) (by (with_reducible repeat (first | refine blk_drewN ?_ _ | refine blk_drew ?_ | refine blk_alloc ?_ _)); refine blk_put (cs := #[.int .u64 ((rd_T41 l0 x14_1).f0), .int .i64 0]) ?_ 1 _ rfl; (with_reducible repeat (first | refine blk_drewN ?_ _ | refine blk_drew ?_ | refine blk_alloc ?_ _)); refine blk_put (cs := #[.int .u64 0, .int .i64 0]) ?_ 0 _ rfl; (with_reducible repeat (first | refine blk_drewN ?_ _ | refine blk_drew ?_ | refine blk_alloc ?_ _)); exact BK172.out) hb); have n3_ := aq_ (below_step (by repeat (first | (with_reducible first | exact HB.out | apply below_alloc | apply pw_below_drewN | apply below_drew1 | refine below_set ?_ GE172.out) | exact HB.out)) hb); clear HO_4; clear BK172; clear HB; have HO_4 := n0_; have HO176 := n1_; have BK172 := n2_; have HB := n3_; clear n0_ n1_ n2_ n3_; (try clear hb); (try clear hb2); (try clear hk); (try clear hi); (try clear ho0); obtain ⟨Ao13, co13, eo13⟩ := Kd.R_slice HO176.out; subst eo13) | ((with_reducible refine gate_builtin (b := .append) (xs := #[.tmp 28, .tmp 29]) rfl ?_); at_builtin; refine Kd.R_append_rows (Kd.int .u8) (w0 := w) w.heap.size rfl (.tmp 28) (.tmp 29) 64 5 (.int .u8 0) 1 rfl Tryz.underlying64 info5 rfl (by decide) (by omega) u4 x4_1 t173 _ _ _ (fun k_ => some k_ ≠ (.slice Ao13 t173.length co13 : Value).ownBlock) (fun _ => False) rfl rfl ?aO ?aR (fun _ _ h => h) (fun _ h => h.elim) ?aF ?aB ?aS ?aL ?_; (case aR => repeat (first | exact (Kd.R_reads' HO176.out).2.2 | (with_reducible refine Kd.C_alloc ?_ _) | (with_reducible refine Kd.C_drewN ?_ _) | (with_reducible refine Kd.C_drew ?_))); (case aB => exact (by repeat (first | (with_reducible first | exact HB.out | apply below_alloc | apply pw_below_drewN | apply below_drew1 | refine below_set ?_ GE172.out) | exact HB.out))); (case aF => exact (fun k_ hk => Kd.fresh' (Kd.R_lt (by (with_reducible repeat (first | apply Kd.R_alloc | apply Kd.R_drewN | apply Kd.R_drew)); exact HO176.out)) k_ hk)); (case aO => exact (by (with_reducible repeat (first | apply Kd.R_alloc | apply Kd.R_drewN | apply Kd.R_drew)); exact Kd.R_mono HO_4.out (fun _ hk => hk.2))); (case aS => exact (below_size (by repeat (first | (with_reducible first | exact HB.out | apply below_alloc | apply pw_below_drewN | apply below_drew1 | refine below_set ?_ GE172.out) | exact HB.out)))); (case aL => have := LMc8.out; omega); intro v178 w12 ho hb hg hat; rw [← Ny177.out] at ho; have n0_ := aq_ (blk_grown (g := gb172) (o := .cells #[.int .u64 ((rd_T41 l0 x14_1).f0), .int .i64 ((rd_T41 l0 x14_1).f1)] 140 (0, 0)) (by (with_reducible repeat (first | refine blk_drewN ?_ _ | refine blk_drew ?_ | refine blk_alloc ?_ _)); exact BK172.out) hg (Kd.R_ne HO_4.out BK172.out (by decide))); have n1_ := aq_ (Kd.R_after (ok := (fun _ => True)) (by (with_reducible repeat (first | apply Kd.R_alloc | apply Kd.R_drewN | apply Kd.R_drew)); exact HO176.out) hg hat); have n2_ := aq_ (hb); have n3_ := aq_ (ho); clear BK172; clear HO176; clear HB; clear HO_4; have BK172 := n0_; have HO176 := n1_; have HB := n2_; have HO179 := n3_; clear n0_ n1_ n2_ n3_; clear ho hb hg hat))
         go_roundg k1
         case measure => have := HK1.out; omega
         case rel => exact ⟨(y177), (wrap64 (x14_1 + 1)), (by first | rfl | (simp; done) | (simp [*]; done)), H', ⟨by have := HK1.out; omega⟩, ⟨by (with_reducible repeat (first | apply Kd.R_alloc | apply Kd.R_drewN | apply Kd.R_drew)); exact Kd.R_mono HO179.out (fun _ hk => trivial)⟩, ⟨by repeat (first | (with_reducible first | exact HB.out | apply below_alloc | apply pw_below_drewN | apply below_drew1 | refine below_set ?_ GE172.out) | exact HB.out)⟩⟩
        ·rw [if_neg c8] at H
         exact absurd H (by simp)
       ·replace c7 := Bool.eq_false_iff.mpr c7
        subst c7
        have H1 : (some (([] : List Int), false)) = some (r1, r2) := by rw [if_neg (show ¬ (false = true) by decide)] at H; exact H
        clear H
        have H := H1
        clear H1
        simp only [Option.some.injEq, Prod.mk.injEq] at H
        obtain ⟨rfl, rfl⟩ := H
        have p171 : 0 ≤ (x14_1 : Int) := of_decide_eq_true (by first | (with_reducible assumption) | assumption)
        have q171 : x14_1 < (l0.length : Int) := of_decide_eq_true (by first | (with_reducible assumption) | assumption)
        obtain ⟨ad171, e171, hx171_0, hx171_1⟩ := at_T41 HR0.out x14_1 p171 q171
        cases e171
        replace hx171_0 := (HB.out.cell (World.block_lt_of_cell? w _ hx171_0)).trans hx171_0
        replace hx171_1 := (HB.out.cell (World.block_lt_of_cell? w _ hx171_1)).trans hx171_1
        replace p171 := eq_true p171
        replace q171 := eq_true q171
        go_wp2_with (first | ((with_reducible refine gate_dst (N := 6) rfl ?_); refine box_event ?hg (N := 6) ?hd (cs := #[.int .u64 0, .int .i64 0]) (t := 140) ?hr ?_; (case hd => rfl); (case hg => rfl); (case hr => first | (go_simp; done) | (go_simp; rfl)); intro gb172 hg w14 hbox hb; have n0_ := aq_ (Kd.R_below (by (with_reducible repeat (first | apply Kd.R_alloc | apply Kd.R_drewN | apply Kd.R_drew)); exact HO_4.out) hb); have n1_ := aq_ (below_step (by repeat (first | (with_reducible first | exact HB.out | apply below_alloc | apply pw_below_drewN | apply below_drew1) | exact HB.out)) hb); have n2_ := aq_ (hbox); have n3_ := aq_ ((by rw [hg]; exact (below_size (by repeat (first | (with_reducible first | exact HB.out | apply below_alloc | apply pw_below_drewN | apply below_drew1) | exact HB.out))) : w.heap.size ≤ gb172)); have n4_ := aq_ ((by rw [hg]; exact (below_size (by repeat (first | (with_reducible first | exact HB.out | apply below_alloc | apply pw_below_drewN | apply below_drew1) | exact HB.out))) : w.heap.size ≤ gb172)); clear HO_4; clear HB; have HO_4 := n0_; have HB := n1_; have BK172 := n2_; have GW172 := n3_; have GE172 := n4_; clear n0_ n1_ n2_ n3_ n4_; clear hb hbox hg; have hcz15_0 : w14.cell? ⟨gb172, 0, none⟩ = some (.int .u64 0) := (blk_cell BK172.out 0).trans rfl; have hcz15_1 : w14.cell? ⟨gb172, 1, none⟩ = some (.int .i64 0) := (blk_cell BK172.out 1).trans rfl; have hfz15_0 := blk_frozen BK172.out 0; have hfz15_1 := blk_frozen BK172.out 1) | ((with_reducible refine gate_callee (f := 113) rfl ?_); refine goesL_ (some 23) rfl rfl Tryz.func113 (by kernel_rfl) rfl #[.int .u64 ((rd_T41 l0 x14_1).f0), .int .i64 ((rd_T41 l0 x14_1).f1)] rfl (by (try simp only [List.map_toArray, List.map_cons, List.map_nil]); first | done | rfl | (simp only [List.length_drop, List.length_take]; rfl)) ?_; (with_reducible refine (num_Put.calls ((rd_T41 l0 x14_1).f0) ((rd_T41 l0 x14_1).f1) t173 false _ A6.out).mono ?_); rintro e w16 ⟨v175, rfl, ho0, hb⟩; refine ⟨_, rfl, ?_⟩; have n0_ := aq_ (Kd.R_elder' (by (with_reducible repeat (first | apply Kd.R_alloc | apply Kd.R_drewN | apply Kd.R_drew)); exact (Kd.R_mono (Kd.R_far (p := ⟨gb172, 1, none⟩) (Kd.R_far (p := ⟨gb172, 0, none⟩) (Kd.R_types HO_4.out BK172.out (by decide)) (fun _ hk => hk.2) (.int .u64 ((rd_T41 l0 x14_1).f0))) (fun _ hk => hk.2) (.int .i64 ((rd_T41 l0 x14_1).f1))) (fun _ h_ => h_.1))) (Kd.R_base ho0) hb); have n1_ := aq_ (Kd.R_lower (Kd.R_new' ho0 (Kd.R_lt (by (with_reducible repeat (first | apply Kd.R_alloc | apply Kd.R_drewN | apply Kd.R_drew)); exact (Kd.R_mono (Kd.R_far (p := ⟨gb172, 1, none⟩) (Kd.R_far (p := ⟨gb172, 0, none⟩) (Kd.R_types HO_4.out BK172.out (by decide)) (fun _ hk => hk.2) (.int .u64 ((rd_T41 l0 x14_1).f0))) (fun _ hk => hk.2) (.int .i64 ((rd_T41 l0 x14_1).f1))) (fun _ h_ => h_.1))))) (below_size (by repeat (first | (with_reducible first | exact HB.out | apply below_alloc | apply pw_below_drewN | apply below_drew1 | refine below_set ?_ GE172.out) | exact HB.out)))); have n2_ := aq_ (blk_below (g := gb172) (o := .cells #[.int .u64 ((rd_T41 l0 x14_1).f0), .int .i64 ((rd_T41 l0 x14_1).f1)] 140 (0, 0)) (by (with_reducible repeat (first | refine blk_drewN ?_ _ | refine blk_drew ?_ | refine blk_alloc ?_ _)); refine blk_put (cs := #[.int .u64 ((rd_T41 l0 x14_1).f0), .int .i64 0]) ?_ 1 _ rfl; (with_reducible repeat (first | refine blk_drewN ?_ _ | refine blk_drew ?_ | refine blk_alloc ?_ _)); refine blk_put (cs := #[.int .u64 0, .int .i64 0]) ?_ 0 _ rfl; (with_reducible repeat (first | refine blk_drewN ?_ _ | refine blk_drew ?_ | refine blk_alloc ?_ _)); exact BK172.out) hb); have n3_ := aq_ (below_step (by repeat (first | (with_reducible first | exact HB.out | apply below_alloc | apply pw_below_drewN | apply below_drew1 | refine below_set ?_ GE172.out) | exact HB.out)) hb); clear HO_4; clear BK172; clear HB; have HO_4 := n0_; have HO176 := n1_; have BK172 := n2_; have HB := n3_; clear n0_ n1_ n2_ n3_; (try clear hb); (try clear hb2); (try clear hk); (try clear hi); (try clear ho0)))
        go_ret2
        exact ⟨_, by first | rfl | (simp [errW_none, errW_some] <;> rfl) | (simp [*, errW_none, errW_some] <;> rfl), by first | exact Kd.R_nil _ _ _ _ _ | exact Kd.N_nil _ _ _ _ _ | exact Kd.V_nil _ _ _ _ _ | exact Kd.Q_nil _ _ _ _ _ | exact Kd.S_nil _ _ _ _ _, by repeat (first | (with_reducible first | exact HB.out | apply below_alloc | apply pw_below_drewN | apply below_drew1 | refine below_set ?_ GE172.out) | exact HB.out)⟩
      ·rw [if_neg c5] at H
       exact absurd H (by simp)
     ·rw [if_neg c4] at H
      exact absurd H (by simp)
    ·rw [if_neg c3] at H
     have c3b0 : decide (x14_1 < (l0.length : Int)) = false := decide_eq_false c3
     clear c3
     simp only [Option.some.injEq, Prod.mk.injEq] at H
     obtain ⟨rfl, rfl⟩ := H
     go_wp2
     go_ret2
     exact ⟨_, by first | rfl | (simp [errW_none, errW_some] <;> rfl) | (simp [*, errW_none, errW_some] <;> rfl), by (with_reducible repeat (first | apply Kd.R_alloc | apply Kd.R_drewN | apply Kd.R_drew)); exact HO_4.out, by repeat (first | (with_reducible first | exact HB.out | apply below_alloc | apply pw_below_drewN | apply below_drew1) | exact HB.out)⟩
theorem put_f {n k : Int} (h : 0 ≤ n ∧ n < 18446744073709551616) : num_Put.f n k = some (if fits n k then (be k.toNat n, true) else ([], false)) := by
 unfold num_Put.f
 rw [if_pos h]
theorem put_fits {n k : Int} (h : 0 ≤ n ∧ n < 18446744073709551616) (hf : fits n k) : num_Put.f n k = some (be k.toNat n, true) := by
 rw [put_f h, if_pos hf]
theorem put_not {n k : Int} (h : 0 ≤ n ∧ n < 18446744073709551616) (hf : ¬ fits n k) : num_Put.f n k = some ([], false) := by
 rw [put_f h, if_neg hf]
def okN (x : S41) : Prop := (0 ≤ x.f0 ∧ x.f0 < 18446744073709551616) ∧ -9223372036854775808 ≤ x.f1 ∧ x.f1 < 9223372036854775808
def catL (l : List S41) : List Int := l.flatMap fun x => be x.f1.toNat x.f0
def allFit (l : List S41) : Prop := ∀ x ∈ l, fits x.f0 x.f1
instance (l : List S41) : Decidable (allFit l) := by unfold allFit; infer_instance
theorem rd_mid (pre : List S41) (x : S41) (suf : List S41) : rd_T41 (pre ++ x :: suf) (pre.length : Int) = x := by
 simp [rd_T41, List.getD_eq_getElem?_getD]
theorem allFit_cons (x : S41) (l : List S41) : allFit (x :: l) ↔ fits x.f0 x.f1 ∧ allFit l := by simp [allFit]
theorem catL_cons (x : S41) (l : List S41) : catL (x :: l) = be x.f1.toNat x.f0 ++ catL l := rfl
theorem cat_loop (l : List S41) (hl : l.length ≤ 40) (hok : ∀ x ∈ l, okN x) : ∀ (suf pre : List S41) (acc : List Int), l = pre ++ suf → acc.length ≤ 8 * pre.length →
  Ev (fun k => num_Cat.l0 k acc l (l.length : Int) (pre.length : Int)) (if allFit suf then (acc ++ catL suf, true) else ([], false)) := by
 intro suf
 induction suf with
 | nil =>
  intro pre acc h ha
  refine Ev.step (f := fun k => some (acc, true)) (fun k => ?_) ⟨0, fun k _ => ?_⟩
  ·simp only [num_Cat.l0]
   rw [if_neg (by rw [h]; simp)]
  ·simp [allFit, catL]
 | cons x suf ih =>
  intro pre acc h ha
  have hx : okN x := hok x (by rw [h]; simp)
  have hlen : l.length = pre.length + suf.length + 1 := by rw [h]; simp; omega
  have hi : (pre.length : Int) < (l.length : Int) := by omega
  have hrd : rd_T41 l (pre.length : Int) = x := by rw [h]; exact rd_mid pre x suf
  by_cases hf : fits x.f0 x.f1
  ·have h8 := hf.2.1
   have ih' := ih (pre ++ [x]) (acc ++ be x.f1.toNat x.f0) (by rw [h]; simp) (by simp [be_length]; omega)
   have e : (if allFit (x :: suf) then (acc ++ catL (x :: suf), true) else ([], false)) = (if allFit suf then ((acc ++ be x.f1.toNat x.f0) ++ catL suf, true) else ([], false)) := by
    simp [allFit_cons, hf, catL_cons]
   rw [e]
   refine Ev.step (fun k => ?_) ih'
   simp only [num_Cat.l0]
   rw [if_pos hi, if_pos (by omega), if_pos hi, hrd, put_fits hx.1 hf]
   simp only [Option.bind_some, if_true]
   rw [if_pos (by rw [be_length]; omega), w64 (by omega) (by omega)]
   simp
  ·refine Ev.step (f := fun k => some ([], false)) (fun k => ?_) ⟨0, fun k _ => ?_⟩
   ·simp only [num_Cat.l0]
    rw [if_pos hi, if_pos (by omega), if_pos hi, hrd, put_not hx.1 hf]
    simp
   ·simp [allFit_cons, hf]
theorem cat_ev (l : List S41) (hok : ∀ x ∈ l, okN x) : Ev (fun k => num_Cat.f k l) (if l.length ≤ 40 ∧ allFit l then (catL l, true) else ([], false)) := by
 by_cases hl : l.length ≤ 40
 ·have h := cat_loop l hl hok l [] [] rfl (by simp)
  refine Ev.congr (f := fun k => num_Cat.l0 k [] l (l.length : Int) 0) (fun k => ?_) ?_
  ·unfold num_Cat.f
   rw [if_neg (by omega)]
  ·simpa [hl] using h
 ·refine Ev.congr (f := fun _ => some ([], false)) (fun k => ?_) (Ev.const (by simp [hl]))
  unfold num_Cat.f
  rw [if_pos (by omega)]
theorem catN_any (l : List S41) (A : Option Addr) (c : Nat) (w : World) (hr : k41.C w A l.length l) (hc : l.length ≤ c) (hok : ∀ x ∈ l, okN x) (hl : l.length ≤ 40) (hf : ∀ x ∈ l, fits x.f0 x.f1) :
  Calls Tryz.prog 110 #[.slice A l.length c] w fun e w' => ∃ v0_ : Value, e = .returned (.tuple #[v0_, .bool true]) ∧ Kd.R (Kd.int .u8) 5 w' w.heap.size (fun _ => True) v0_ (catL l) ∧ Below w.heap.size w w' := by
 obtain ⟨k, hk⟩ := (cat_ev l hok).rounds
 rw [if_pos ⟨hl, hf⟩] at hk
 exact num_Cat.calls k A c l (catL l) true w hr hc hk
def wfF (f : Frm) : Prop := (0 ≤ f.sess ∧ f.sess < 18446744073709551616) ∧ (0 ≤ f.cn ∧ f.cn < 18446744073709551616) ∧ (0 ≤ f.count ∧ f.count < 18446744073709551616)
def numS (f : Frm) (s : Bool × Nat × Int) : S41 := ⟨numF f s.2.1, s.2.2⟩
def sumK (l : List (Bool × Nat × Int)) : Int := (l.map fun s => s.2.2).sum
def sizeF (f : Frm) : Int := if tagK f.kind = true then 1 + sumK (slotsK f.kind) + 32 else 1 + sumK (slotsK f.kind)
def numsF (f : Frm) : List S41 := ⟨sizeF f, 2⟩ :: ⟨f.kind, 1⟩ :: (slotsK f.kind).map (numS f)
def textB (f : Frm) : List Int := catL (numsF f)
theorem plain_parts {f : Frm} (h : plainF f = true) : (0 ≤ f.kind ∧ f.kind ≤ 6) ∧ (0 ≤ f.user ∧ f.user ≤ 255) ∧ (0 ≤ f.epoch ∧ f.epoch ≤ 1073741824) ∧ (0 ≤ f.cmd ∧ f.cmd ≤ 255) ∧ (0 ≤ f.arg ∧ f.arg ≤ 65535) ∧ bareF f = f := by
 simp only [plainF, kindB, inB, Bool.and_eq_true, decide_eq_true_eq] at h
 obtain ⟨⟨k1, k2⟩, u, e, c, a, b⟩ := h
 exact ⟨⟨k1, by omega⟩, u, e, c, a, b⟩
theorem slots_fit {f : Frm} (h : plainF f = true) (hw : wfF f) : ∀ s ∈ slotsK f.kind, fits (numF f s.2.1) s.2.2 ∧ (0 ≤ numF f s.2.1 ∧ numF f s.2.1 < 18446744073709551616) ∧ 1 ≤ s.2.2 ∧ s.2.2 ≤ 8 := by
 obtain ⟨⟨k0, k6⟩, u, e, c, a, b⟩ := plain_parts h
 obtain ⟨w1, w2, w3⟩ := hw
 have hk : f.kind = 0 ∨ f.kind = 1 ∨ f.kind = 2 ∨ f.kind = 3 ∨ f.kind = 4 ∨ f.kind = 5 ∨ f.kind = 6 := by omega
 have p1 : (256 : Int) ^ (1 : Int).toNat = 256 := by decide
 have p2 : (256 : Int) ^ (2 : Int).toNat = 65536 := by decide
 have p4 : (256 : Int) ^ (4 : Int).toNat = 4294967296 := by decide
 have p8 : (256 : Int) ^ (8 : Int).toNat = 18446744073709551616 := by decide
 rcases hk with hk | hk | hk | hk | hk | hk | hk <;> rw [hk] <;> simp [slotsK, numF, fits, p1, p2, p4, p8] <;> omega
theorem sumK_le (l : List (Bool × Nat × Int)) (h : ∀ s ∈ l, 1 ≤ s.2.2 ∧ s.2.2 ≤ 8) : 0 ≤ sumK l ∧ sumK l ≤ 8 * l.length := by
 induction l with
 | nil => simp [sumK]
 | cons s l ih =>
  have h1 := ih fun x hx => h x (by simp [hx])
  have h2 := h s (by simp)
  simp only [sumK, List.map_cons, List.sum_cons, List.length_cons] at h1 ⊢
  omega
theorem sumK_snoc (l : List (Bool × Nat × Int)) (s : Bool × Nat × Int) : sumK (l ++ [s]) = sumK l + s.2.2 := by simp [sumK]
theorem nums_ok {f : Frm} (h : plainF f = true) (hw : wfF f) : (∀ x ∈ numsF f, okN x) ∧ (numsF f).length ≤ 40 ∧ ∀ x ∈ numsF f, fits x.f0 x.f1 := by
 obtain ⟨⟨k0, k6⟩, _⟩ := plain_parts h
 have hs := slots_fit h hw
 have hl := slotsK_len f.kind
 have hsum := sumK_le (slotsK f.kind) fun s hs' => (hs s hs').2.2
 have hz : 0 ≤ sizeF f ∧ sizeF f ≤ 65 := by unfold sizeF; split <;> omega
 have p1 : (256 : Int) ^ (1 : Int).toNat = 256 := by decide
 have p2 : (256 : Int) ^ (2 : Int).toNat = 65536 := by decide
 refine ⟨fun x hx => ?_, by simp [numsF]; omega, fun x hx => ?_⟩
 ·simp only [numsF, List.mem_cons, List.mem_map] at hx
  rcases hx with rfl | rfl | ⟨s, hs', rfl⟩
  ·exact ⟨by dsimp only; omega, by dsimp only; omega, by dsimp only; omega⟩
  ·exact ⟨by dsimp only; omega, by dsimp only; omega, by dsimp only; omega⟩
  ·have := hs s hs'
   exact ⟨this.2.1, by dsimp only [numS]; omega, by dsimp only [numS]; omega⟩
 ·simp only [numsF, List.mem_cons, List.mem_map] at hx
  rcases hx with rfl | rfl | ⟨s, hs', rfl⟩
  ·exact ⟨by dsimp only; omega, by dsimp only; omega, by dsimp only; rw [p2]; omega⟩
  ·exact ⟨by dsimp only; omega, by dsimp only; omega, by dsimp only; rw [p1]; omega⟩
  ·exact (hs s hs').1
theorem wu64 {x : Int} (h0 : 0 ≤ x) (h1 : x < 18446744073709551616) : IntKind.u64.wrap x = x := by
 rw [IntKind.wrap_u64]
 omega
theorem R_lit2 (W : World) (x y : S41) : Kd.R k41 140 (W.alloc (.cells #[.int .u64 x.f0, .int .i64 x.f1, .int .u64 y.f0, .int .i64 y.f1] 140)) W.heap.size (fun _ => True) (.slice (some ⟨W.heap.size, 0, none⟩) 2 2) [x, y] := by
 refine ⟨fun k hk => trivial, [.int .u64 x.f0, .int .i64 x.f1, .int .u64 y.f0, .int .i64 y.f1], ⟨rfl, .inr ⟨W.heap.size, 2, _, rfl, Nat.le_refl _, blk_new W _, Nat.le_refl _, by decide, rfl, rfl⟩⟩, ⟨rfl, fun j p h => ?_⟩⟩
 have hj : j < 2 := (List.getElem?_eq_some_iff.1 h).1
 have hj2 : j = 0 ∨ j = 1 := by omega
 rcases hj2 with rfl | rfl
 ·obtain rfl : x = p := by simpa using h
  exact k41_mkM _ _ _ x
 ·obtain rfl : y = p := by simpa using h
  exact k41_mkM _ _ _ y
theorem wr_c {i n : Nat} (h : i < n) (hn : n ≤ 4) : Value.int .i64 (wrap64 ((i : Int) + 1)) = .int .i64 ((i + 1 : Nat) : Int) := by
 rw [wr_i h hn]
 rfl
theorem wr_s {f : Frm} {L : List (Bool × Nat × Int)} {i : Nat} {b : Bool} {off : Nat} {k : Int} (hf : ∀ s ∈ L, fits (numF f s.2.1) s.2.2 ∧ (0 ≤ numF f s.2.1 ∧ numF f s.2.1 < 18446744073709551616) ∧ 1 ≤ s.2.2 ∧ s.2.2 ≤ 8) (hl : L.length ≤ 4) (hs : L[i]? = some (b, off, k)) : Value.int .i64 (wrap64 (1 + sumK (L.take i) + k)) = .int .i64 (1 + sumK (L.take (i + 1))) := by
 rw [List.take_add_one, hs, Option.toList_some, sumK_snoc]
 have h1 := sumK_le (L.take i) fun s h => (hf s (List.mem_of_mem_take h)).2.2
 have h2 := hf _ (List.mem_of_getElem? hs)
 have h3 : (L.take i).length ≤ 4 := by rw [List.length_take]; omega
 rw [w64 (by dsimp only at h2; omega) (by dsimp only at h2; omega), Int.add_assoc]
theorem nums_snoc {f : Frm} {L : List (Bool × Nat × Int)} {i : Nat} {s : Bool × Nat × Int} {w : World} {base : Nat} {v : Value} (hs : L[i]? = some s) (h : Kd.R k41 140 w base (fun _ => True) v ((⟨0, 0⟩ :: ⟨f.kind, 1⟩ :: (L.take i).map (numS f)) ++ [numS f s])) : Kd.R k41 140 w base (fun _ => True) v (⟨0, 0⟩ :: ⟨f.kind, 1⟩ :: (L.take (i + 1)).map (numS f)) := by
 rw [List.take_add_one, hs, Option.toList_some, List.map_append]
 exact h
set_option maxHeartbeats 2000000 in
theorem text_any (f : Frm) (w : World) (hp : plainF f = true) (hw : wfF f) :
  Calls Tryz.prog 90 #[.agg (fca f)] w fun e w' => ∃ v, e = .returned (.tuple #[v, .bool (tagK f.kind)]) ∧ Kd.R (Kd.int .u8) 5 w' w.heap.size (fun _ => True) v (textB f) ∧ Below w.heap.size w w' := by
 have HB := aq_ (Below.refl w.heap.size w)
 have HP := aq_ hp
 have HW := aq_ hw
 obtain ⟨⟨h0, h6⟩, _⟩ := plain_parts hp
 clear hp hw
 go_enter Tryz.func90, Tryz.ntmps90
 go_upto_region 1 with (with_reducible refine box_Fr (.tmp 0) (f := f) rfl rfl rfl ?_; intro g1 hg w1 hbox hb; have HB1 := aq_ (below_step HB.out hb); have X1 := aq_ hbox; clear hg hbox hb HB)
 go_upto_region 2 with (go_at_call 109; (with_reducible refine (slots_F g1 f.kind _ h0 h6 (blk_lt X1.out) (cellsF X1.out).1).mono ?_); rintro e w2 ⟨A1, c1, rfl, hc1, hC1, hb⟩; have HB2 := aq_ (below_step HB1.out hb); have X2 := aq_ (blk_below X1.out hb); have C1 := aq_ (Kd.F_now hC1); have K1 := aq_ hc1; clear hc1 hC1 hb X1 HB1)
 have hk0 := (cellsF X2.out).1
 have hwk : IntKind.u64.wrap f.kind = f.kind := wu64 h0 (by omega)
 go_upto_region 4 with (fail)
 clear hwk hk0
 obtain ⟨L, hL⟩ : ∃ L, L = slotsK f.kind := ⟨_, rfl⟩
 rw [← hL] at C1 K1 ⊢
 have HL := aq_ hL
 have FIT := aq_ (show ∀ s ∈ L, fits (numF f s.2.1) s.2.2 ∧ (0 ≤ numF f s.2.1 ∧ numF f s.2.1 < 18446744073709551616) ∧ 1 ≤ s.2.2 ∧ s.2.2 ≤ 8 by rw [hL]; exact slots_fit HP.out HW.out)
 have OK := aq_ (show ∀ s ∈ L, okS s by rw [hL]; exact okS_all _)
 have LN := aq_ (show L.length ≤ 4 by rw [hL]; exact slotsK_len _)
 clear hL
 obtain ⟨W0, hW0⟩ : ∃ W0, W0 = w2.alloc (.cells #[.int .u64 0, .int .i64 0, .int .u64 f.kind, .int .i64 1] 140) := ⟨_, rfl⟩
 rw [← hW0]
 have R0 := aq_ (show Kd.R k41 140 W0 w2.heap.size (fun _ => True) (.slice (some ⟨w2.heap.size, 0, none⟩) 2 2) [⟨0, 0⟩, ⟨f.kind, 1⟩] by rw [hW0]; exact R_lit2 w2 _ _)
 have B0 := aq_ (show Below w2.heap.size w2 W0 by rw [hW0]; exact below_alloc (Below.refl _ _) _)
 clear hW0
 obtain ⟨v0, hv0⟩ : ∃ v0, v0 = Value.slice (some ⟨w2.heap.size, 0, none⟩) 2 2 := ⟨_, rfl⟩
 rw [← hv0] at R0 ⊢
 clear hv0
 go_wp2
 go_loopw [6, 7, 25] (fun v6 v7 v25 wr => ∃ i : Nat, i ≤ L.length ∧ v25 = .int .i64 i ∧ v6 = .int .i64 (1 + sumK (L.take i)) ∧ Aside0 (Below w2.heap.size w2 wr) ∧ Aside0 (Kd.R k41 140 wr w2.heap.size (fun _ => True) v7 (⟨0, 0⟩ :: ⟨f.kind, 1⟩ :: (L.take i).map (numS f)))) (fun v6 v7 v25 _ => L.length - (intOf v25).toNat)
 case atStart => exact ⟨0, by omega, rfl, rfl, B0, R0⟩
 case round =>
  clear B0 R0
  obtain ⟨i, hi, rfl, rfl, HB, HR⟩ := hrel
  by_cases hlt : i < L.length
  ·obtain ⟨⟨b, off, k⟩, hs⟩ : ∃ s, L[i]? = some s := ⟨_, List.getElem?_eq_getElem hlt⟩
   have ho := OK.out _ (List.mem_of_getElem? hs)
   obtain ⟨ad, rfl, a0, a1, a2⟩ := at_L (Kd.C_below C1.out HB.out) i hlt (slotAt g1 (b, off, k)) (by rw [List.getElem?_map, hs]; rfl)
   have x2 := num_cell (blk_below X2.out HB.out) ho
   have hf := FIT.out _ (List.mem_of_getElem? hs)
   have HS := aq_ hs
   have HF := aq_ hf
   clear hs ho hf
   cases b
   ·
    replace a0 : wr.cell? (ad.add (i * 3)) = some (.pointer (none)) := a0
    replace a1 : wr.cell? ⟨(ad.add (i * 3)).block, (ad.add (i * 3)).off + 1, none⟩ = some (.pointer (some ⟨g1, off, none⟩)) := a1
    replace a2 : wr.cell? ⟨(ad.add (i * 3)).block, (ad.add (i * 3)).off + 2, none⟩ = some (.int .i64 k) := a2
    replace x2 : wr.cell? ⟨g1, off, none⟩ = some (.int .u64 (numF f off)) := x2
    have hg1 : g1 < wr.heap.size := blk_lt (blk_below X2.out HB.out)
    go_upto_region 11 with (fail)
    obtain ⟨W, hW⟩ : ∃ W, W = (wr.alloc (.cells #[.pointer (none), .pointer (some ⟨g1, off, none⟩), .int .i64 k] 145)).alloc (.cells #[.int .u64 (numF f off), .int .i64 k] 140) := ⟨_, rfl⟩
    rw [← hW]
    have HX := aq_ (show W.heap[wr.heap.size]? = some (.cells #[.pointer (none), .pointer (some ⟨g1, off, none⟩), .int .i64 k] 145 (0, 0)) by rw [hW]; exact blk_alloc (blk_new wr _) _)
    have HY := aq_ (show W.heap[wr.heap.size + 1]? = some (.cells #[.int .u64 (numF f off), .int .i64 k] 140 (0, 0)) by rw [hW, ← size_al wr]; exact blk_new _ _)
    have HRW := aq_ (show Kd.R k41 140 W w2.heap.size (fun _ => True) u7 (⟨0, 0⟩ :: ⟨f.kind, 1⟩ :: (L.take i).map (numS f)) by rw [hW]; exact Kd.R_alloc (Kd.R_alloc HR.out _) _)
    have HBW := aq_ (show Below w2.heap.size w2 W by rw [hW]; exact below_alloc (below_alloc HB.out _) _)
    clear hW
    have y0 : W.cell? ⟨wr.heap.size + 1, 0, none⟩ = some (.int .u64 (numF f off)) := blk_cell HY.out 0
    have y1 : W.cell? ⟨wr.heap.size + 1, 1, none⟩ = some (.int .i64 k) := blk_cell HY.out 1
    go_upto_region 12 with ((with_reducible refine gate_builtin (b := .append) (xs := #[.tmp 46, .tmp 48]) rfl ?_); at_builtin; refine Kd.R_append k41 (w0 := w2) w2.heap.size rfl (.tmp 46) (.tmp 48) 141 140 (.agg #[.int .u64 0, .int .i64 0]) 16 rfl Tryz.underlying141 infoN rfl (by decide) (by decide) u7 (⟨0, 0⟩ :: ⟨f.kind, 1⟩ :: (L.take i).map (numS f)) (numS f (false, off, k)) [.int .u64 (numF f off), .int .i64 k] (fun _ => True) (fun _ => False) rfl rfl (k41_mkM _ _ _ (numS f (false, off, k))) (fun _ h => h.elim) (fun _ _ => trivial) HRW.out HBW.out HBW.out.size ?_ ?_; (· have := LN.out; simp; omega); intro v1 w3 ho hb hg hat; have HR1 := aq_ ho; have HB1 := aq_ hb; have hx2 : w3.cell? ⟨wr.heap.size, 2, none⟩ = some (.int .i64 k) := cell_grown hg (blk_cell HX.out 2) (Kd.R_ne HRW.out HX.out (by decide)); clear ho hb hg hat)
    go_wp2
    go_roundw
    case rel => exact ⟨i + 1, by omega, wr_c hlt LN.out, wr_s (b := false) (off := off) FIT.out LN.out HS.out, HB1, ⟨nums_snoc HS.out HR1.out⟩⟩
    case measure => rw [wr_i hlt LN.out]; simp [intOf]; omega
   ·
    replace a0 : wr.cell? (ad.add (i * 3)) = some (.pointer (some ⟨g1, off, none⟩)) := a0
    replace a1 : wr.cell? ⟨(ad.add (i * 3)).block, (ad.add (i * 3)).off + 1, none⟩ = some (.pointer (none)) := a1
    replace a2 : wr.cell? ⟨(ad.add (i * 3)).block, (ad.add (i * 3)).off + 2, none⟩ = some (.int .i64 k) := a2
    replace x2 : wr.cell? ⟨g1, off, none⟩ = some (.int .i64 (numF f off)) := x2
    have hg1 : g1 < wr.heap.size := blk_lt (blk_below X2.out HB.out)
    have hwv : IntKind.u64.wrap (numF f off) = numF f off := wu64 HF.out.2.1.1 HF.out.2.1.2
    go_upto_region 11 with (fail)
    obtain ⟨W, hW⟩ : ∃ W, W = (wr.alloc (.cells #[.pointer (some ⟨g1, off, none⟩), .pointer (none), .int .i64 k] 145)).alloc (.cells #[.int .u64 (numF f off), .int .i64 k] 140) := ⟨_, rfl⟩
    rw [← hW]
    have HX := aq_ (show W.heap[wr.heap.size]? = some (.cells #[.pointer (some ⟨g1, off, none⟩), .pointer (none), .int .i64 k] 145 (0, 0)) by rw [hW]; exact blk_alloc (blk_new wr _) _)
    have HY := aq_ (show W.heap[wr.heap.size + 1]? = some (.cells #[.int .u64 (numF f off), .int .i64 k] 140 (0, 0)) by rw [hW, ← size_al wr]; exact blk_new _ _)
    have HRW := aq_ (show Kd.R k41 140 W w2.heap.size (fun _ => True) u7 (⟨0, 0⟩ :: ⟨f.kind, 1⟩ :: (L.take i).map (numS f)) by rw [hW]; exact Kd.R_alloc (Kd.R_alloc HR.out _) _)
    have HBW := aq_ (show Below w2.heap.size w2 W by rw [hW]; exact below_alloc (below_alloc HB.out _) _)
    clear hW
    have y0 : W.cell? ⟨wr.heap.size + 1, 0, none⟩ = some (.int .u64 (numF f off)) := blk_cell HY.out 0
    have y1 : W.cell? ⟨wr.heap.size + 1, 1, none⟩ = some (.int .i64 k) := blk_cell HY.out 1
    go_upto_region 12 with ((with_reducible refine gate_builtin (b := .append) (xs := #[.tmp 46, .tmp 48]) rfl ?_); at_builtin; refine Kd.R_append k41 (w0 := w2) w2.heap.size rfl (.tmp 46) (.tmp 48) 141 140 (.agg #[.int .u64 0, .int .i64 0]) 16 rfl Tryz.underlying141 infoN rfl (by decide) (by decide) u7 (⟨0, 0⟩ :: ⟨f.kind, 1⟩ :: (L.take i).map (numS f)) (numS f (true, off, k)) [.int .u64 (numF f off), .int .i64 k] (fun _ => True) (fun _ => False) rfl rfl (k41_mkM _ _ _ (numS f (true, off, k))) (fun _ h => h.elim) (fun _ _ => trivial) HRW.out HBW.out HBW.out.size ?_ ?_; (· have := LN.out; simp; omega); intro v1 w3 ho hb hg hat; have HR1 := aq_ ho; have HB1 := aq_ hb; have hx2 : w3.cell? ⟨wr.heap.size, 2, none⟩ = some (.int .i64 k) := cell_grown hg (blk_cell HX.out 2) (Kd.R_ne HRW.out HX.out (by decide)); clear ho hb hg hat)
    go_wp2
    go_roundw
    case rel => exact ⟨i + 1, by omega, wr_c hlt LN.out, wr_s (b := true) (off := off) FIT.out LN.out HS.out, HB1, ⟨nums_snoc HS.out HR1.out⟩⟩
    case measure => rw [wr_i hlt LN.out]; simp [intOf]; omega
  ·obtain rfl : i = L.length := by omega
   have hT : (⟨0, 0⟩ :: ⟨f.kind, 1⟩ :: (L.take L.length).map (numS f) : List S41) = ⟨0, 0⟩ :: ⟨f.kind, 1⟩ :: L.map (numS f) := by rw [List.take_length]
   rw [List.take_length]
   have HR0 := HR.out
   rw [hT] at HR0
   clear hT HR
   obtain ⟨NL, hNL⟩ : ∃ NL : List S41, NL = ⟨0, 0⟩ :: ⟨f.kind, 1⟩ :: L.map (numS f) := ⟨_, rfl⟩
   rw [← hNL] at HR0
   have hm : NL.length = L.length + 2 := by rw [hNL]; simp
   obtain ⟨gl, cl, hv, hgl, _, _⟩ := Kd.R_form HR0 (by omega)
   obtain ⟨m, hmm⟩ : ∃ m, m = NL.length := ⟨_, rfl⟩
   rw [← hmm] at hm hv
   subst hv
   have hm0 : 0 < m := by omega
   have hm6 : m ≤ 6 := by have := LN.out; omega
   obtain ⟨c0, hcl, hcM, hcc, _⟩ := Kd.R_elem HR0 z41 0 (by decide) (by omega)
   have hc0 : c0 = [.int .u64 0, .int .i64 0] := by
    have h := k41_openM hcM
    rw [hNL] at h
    exact h
   subst hc0
   have HNL := aq_ hNL
   have HM := aq_ hmm
   have HR := aq_ HR0
   have HC0 := aq_ hcc
   clear HR0 hcM hcc hcl hgl hNL hmm hm
   cases ht : tagK f.kind
   ·have HT := aq_ ht
    clear ht
    have hsz : 1 + sumK L = sizeF f := by unfold sizeF; rw [HT.out, HL.out]; rfl
    have hzb : 0 ≤ sizeF f ∧ sizeF f ≤ 65 := by
     have h1 := sumK_le L fun s hs => (FIT.out s hs).2.2
     have h2 := LN.out
     rw [← hsz]
     omega
    have hw1 : wrap64 (1 + sumK L) = 1 + sumK L := w64 (by have := sumK_le L fun s hs => (FIT.out s hs).2.2; omega) (by have := sumK_le L fun s hs => (FIT.out s hs).2.2; have := LN.out; omega)
    have hw2 : wrap64 (1 + sumK L) = sizeF f := by rw [← hsz]; exact w64 (by omega) (by omega)
    have hw3 : IntKind.u64.wrap (sizeF f) = sizeF f := wu64 hzb.1 (by omega)
    go_upto_region 16 with (fail)
    rw [hsz]
    clear hw1 hw2 hsz
    go_upto_region 17 with (go_loud (refine Kd.R_store k41 (w0 := w2) w2.heap.size rfl rfl 140 (.tmp 62) (.tmp 61) rfl 140 0 0 NL ⟨sizeF f, 2⟩ (.agg #[.int .u64 (sizeF f), .int .i64 2]) [.int .u64 (sizeF f), .int .i64 2] [.int .u64 0, .int .i64 0] (fun _ => True) (fun _ => False) rfl rfl rfl rfl (by kernel_rfl) (by simp [Value.oneCell']) HR.out (by decide) (Int.ofNat_lt.2 hm0) rfl HC0.out (Nat.le_refl 2) (k41_mkM _ _ _ ⟨sizeF f, 2⟩) (fun _ h => h.elim) HB.out ?_); intro w4 ho hb hg; have HR4 := aq_ ho; have HB4 := aq_ (HB2.out.trans (hb.mono HB2.out.size)); clear ho hb hg)
    have hset : NL.set (Int.toNat 0) ⟨sizeF f, 2⟩ = numsF f := by rw [HNL.out, HL.out]; rfl
    have hlen : (numsF f).length = m := by rw [← hset, List.length_set, HM.out]
    have hR4 := HR4.out
    rw [hset] at hR4
    obtain ⟨n1, n2, n3⟩ := nums_ok HP.out HW.out
    obtain ⟨_, hcc4, hC4⟩ := Kd.R_reads' hR4
    have hcat := catN_any (numsF f) (some ⟨gl, 0, none⟩) cl w4 hC4 (by rw [hlen]; exact hcc4) n1 n2 n3
    have HCAT := aq_ hcat
    clear hset hlen hR4 n1 n2 n3 hcc4 hC4 hcat HR4
    go_wp2_with (go_at_call 110; (with_reducible refine HCAT.out.mono ?_); rintro e w5 ⟨v5, rfl, hR, hb⟩; have HR5 := aq_ hR; have HB5 := aq_ (below_step HB4.out hb); have HLE := aq_ HB4.out.size; clear hR hb)
    go_ret2
    exact ⟨v5, by rw [HT.out]; rfl, Kd.R_lower HR5.out HLE.out, HB5.out⟩
   ·have HT := aq_ ht
    clear ht
    have hsz : 1 + sumK L + 32 = sizeF f := by unfold sizeF; rw [HT.out, HL.out]; rfl
    have hzb : 0 ≤ sizeF f ∧ sizeF f ≤ 65 := by
     have h1 := sumK_le L fun s hs => (FIT.out s hs).2.2
     have h2 := LN.out
     rw [← hsz]
     omega
    have hw1 : wrap64 (1 + sumK L) = 1 + sumK L := w64 (by have := sumK_le L fun s hs => (FIT.out s hs).2.2; omega) (by have := sumK_le L fun s hs => (FIT.out s hs).2.2; have := LN.out; omega)
    have hw2 : wrap64 (1 + sumK L + 32) = sizeF f := by rw [← hsz]; exact w64 (by omega) (by omega)
    have hw3 : IntKind.u64.wrap (sizeF f) = sizeF f := wu64 hzb.1 (by omega)
    go_upto_region 16 with (fail)
    skip
    clear hw1 hw2 hsz
    go_upto_region 17 with (go_loud (refine Kd.R_store k41 (w0 := w2) w2.heap.size rfl rfl 140 (.tmp 62) (.tmp 61) rfl 140 0 0 NL ⟨sizeF f, 2⟩ (.agg #[.int .u64 (sizeF f), .int .i64 2]) [.int .u64 (sizeF f), .int .i64 2] [.int .u64 0, .int .i64 0] (fun _ => True) (fun _ => False) rfl rfl rfl rfl (by kernel_rfl) (by simp [Value.oneCell']) HR.out (by decide) (Int.ofNat_lt.2 hm0) rfl HC0.out (Nat.le_refl 2) (k41_mkM _ _ _ ⟨sizeF f, 2⟩) (fun _ h => h.elim) HB.out ?_); intro w4 ho hb hg; have HR4 := aq_ ho; have HB4 := aq_ (HB2.out.trans (hb.mono HB2.out.size)); clear ho hb hg)
    have hset : NL.set (Int.toNat 0) ⟨sizeF f, 2⟩ = numsF f := by rw [HNL.out, HL.out]; rfl
    have hlen : (numsF f).length = m := by rw [← hset, List.length_set, HM.out]
    have hR4 := HR4.out
    rw [hset] at hR4
    obtain ⟨n1, n2, n3⟩ := nums_ok HP.out HW.out
    obtain ⟨_, hcc4, hC4⟩ := Kd.R_reads' hR4
    have hcat := catN_any (numsF f) (some ⟨gl, 0, none⟩) cl w4 hC4 (by rw [hlen]; exact hcc4) n1 n2 n3
    have HCAT := aq_ hcat
    clear hset hlen hR4 n1 n2 n3 hcc4 hC4 hcat HR4
    go_wp2_with (go_at_call 110; (with_reducible refine HCAT.out.mono ?_); rintro e w5 ⟨v5, rfl, hR, hb⟩; have HR5 := aq_ hR; have HB5 := aq_ (below_step HB4.out hb); have HLE := aq_ HB4.out.size; clear hR hb)
    go_ret2
    exact ⟨v5, by rw [HT.out]; rfl, Kd.R_lower HR5.out HLE.out, HB5.out⟩
end Go.Proofs.YtdinphnljokigaaGreat.P
end
