/- By hand: slices.Grow of nothing, slices.Concat of two rows, store.Write. -/
import Derived.Test.YtlldfihhdbbicaaHStore
import Derived.Lib.AppendZerosOnto
import Derived.LoopN
import Derived.Handy
namespace Go.Proofs.Ytlldfihhdbbicaa.P
open Go.RowKit Go.Lib Go.Proofs.YtlldfihhdbbicaaW.PrintWords Go.Proofs.YtlldfihhdbbicaaW.PrintLast Go.Proofs.YtlldfihhdbbicaaW.PrintMore
set_option linter.unusedVariables false
set_option linter.unusedSimpArgs false
set_option maxHeartbeats 2000000 in
set_option maxRecDepth 100000 in
theorem grow_none (w : World) : Calls Try.prog 35 #[.slice none 0 0, .int .i64 0] w fun e w' => e = .returned (.slice none 0 0) ∧ w' = w := by
  go_enter Try.func35, Try.ntmps35
  go_wp2
  go_ret
  exact ⟨rfl, rfl⟩
set_option maxHeartbeats 2000000 in
set_option maxRecDepth 100000 in
theorem grow_some (w : World) (n : Nat) (h0 : 0 < n) (hn : n < 140737488355328) : Calls Try.prog 35 #[.slice none 0 0, .int .i64 n] w fun e w' => ∃ G cs, e = .returned (.slice (some ⟨w.heap.size, 0, none⟩) 0 G) ∧ w' = w.drew.alloc (.cells cs 5) ∧ cs.size = G ∧ G ≤ maxLen := by
  have h1 : ¬ ((n : Int) < 0) := by omega
  have h4 : (n : Int) > 0 := by omega
  obtain ⟨i0, hi, hzz⟩ := Option.map_eq_some_iff.1 info5
  simp only [Prod.mk.injEq] at hzz
  obtain ⟨hz0, hs0, hb0⟩ := hzz
  have hrz : ∀ ty, (Builtin.append_ #[22, 3] ty #[.slice none 0 0, .int .i64 (n : Int)]).run Try.prog w =
      .ok (.slice (some ⟨w.heap.size, 0, none⟩) n (grownCap w n 0 5)) (w.drew.alloc (.cells ((#[] : Array Value) ++ Builtin.zeroCells (Value.int .u8 0).cells n ++ Builtin.zeroCells (Value.int .u8 0).cells (grownCap w n 0 5 - n)) 5)) := fun ty => by
    have h := Lib.run_append_grow_zeros w 22 3 ty 5 i0 (.int .u8 0) .i64 .i64 Try.underlying22 Try.underlying3 hi hz0 none 0 0 [] (run_firstCells_none w.drew i0.size 0 0 0) n h0 (by omega) (by omega) (by omega) (by rw [hb0]; omega)
      (by rw [Nat.zero_add]; exact growslice_fits (by omega) (by rw [hb0]; omega))
    simpa using h
  have hGn : n ≤ grownCap w n 0 5 := grownCap_ge w _ _ _
  have hG : grownCap w n 0 5 ≤ maxLen := grownCap_le_maxLen w n 0 5 (by unfold maxLen; omega)
  have hsz : ((#[] : Array Value) ++ Builtin.zeroCells (Value.int .u8 0).cells n ++ Builtin.zeroCells (Value.int .u8 0).cells (grownCap w n 0 5 - n)).size = grownCap w n 0 5 := by
    have hz : (Value.int .u8 0).cells.size = 1 := rfl
    rw [Array.size_append, Array.size_append, size_zeroCells, size_zeroCells, hz]
    simp
    omega
  generalize grownCap w n 0 5 = G at hrz hGn hG hsz
  generalize ((#[] : Array Value) ++ Builtin.zeroCells (Value.int .u8 0).cells n ++ Builtin.zeroCells (Value.int .u8 0).cells (G - n)) = cs at hrz hsz
  have HQ := Aside0.mk hG
  clear hi hz0 hs0 hb0
  go_enter Try.func35, Try.ntmps35
  go_wp2_with (at_builtin; refine Lib.wpList_append_run _ rfl _ _ _ _ rfl _ _ rfl rfl _ _ (hrz _) ?_)
  go_ret
  exact ⟨G, rfl, cs, rfl, hsz, HQ.out⟩
/-- Grow of nothing: a row of the call's own, empty. -/
theorem grow_own (w : World) (n : Int) (h0 : 0 ≤ n) (hn : n < 140737488355328) : Calls Try.prog 35 #[.slice none 0 0, .int .i64 n] w fun e w' => ∃ v, e = .returned v ∧ Kd.R (Kd.int .u8) 5 w' w.heap.size (fun _ => True) v ([] : List Int) ∧ Below w.heap.size w w' := by
  obtain ⟨m, rfl⟩ : ∃ m : Nat, n = (m : Int) := ⟨n.toNat, by omega⟩
  rcases Nat.eq_zero_or_pos m with rfl | hp
  · refine (grow_none w).mono ?_
    rintro e w' ⟨rfl, rfl⟩
    exact ⟨_, rfl, Kd.R_nil _ _ _ _ _, Below.refl _ _⟩
  · refine (grow_some w m hp (by omega)).mono ?_
    rintro e w' ⟨G, cs, rfl, rfl, hs, hG⟩
    refine ⟨_, rfl, Kd.R_of_own ?_ (fun _ _ => trivial), below_alloc (Below.drew (Below.refl _ _)) _⟩
    refine ⟨by simp [encs], .inr ⟨w.heap.size, G, cs, rfl, Nat.le_refl _, heap_alloc_new _ _, Nat.zero_le _, hG, by simpa using hs, ?_⟩⟩
    simp [encs]
set_option maxHeartbeats 2000000 in
set_option maxRecDepth 100000 in
theorem concat_two (w : World) (g : Nat) (A B : Option Addr) (ca cb : Nat) (l m : List Int) (hg : w.heap[g]? = some (.cells #[.slice A l.length ca, .slice B m.length cb] 22 (0, 0))) (hA : Kd.C (Kd.int .u8) w A l.length l) (hB : Kd.C (Kd.int .u8) w B m.length m) (hl : l.length < 70368744177664) (hm : m.length < 70368744177664) :
    Calls Try.prog 34 #[.slice (some ⟨g, 0, none⟩) 2 2] w fun e w' => ∃ v, e = .returned v ∧ Kd.R (Kd.int .u8) 5 w' w.heap.size (fun _ => True) v (l ++ m) ∧ Below w.heap.size w w' := by
  have HG := Aside0.mk hg
  have HA := Aside0.mk hA
  have HB := Aside0.mk hB
  have HL := Aside0.mk hl
  have HM := Aside0.mk hm
  have k0 := blk_cell hg 0
  have k1 := blk_cell hg 1
  have e1 : wrap64 (0 + (l.length : Int)) = (l.length : Int) := by rw [w64 (by omega) (by omega)]; omega
  have e2 : wrap64 (l.length : Int) = (l.length : Int) := w64 (by omega) (by omega)
  have e3 : wrap64 ((l.length : Int) + (m.length : Int)) = (l.length : Int) + (m.length : Int) := w64 (by omega) (by omega)
  have d1 : decide ((l.length : Int) < 0) = false := by simp
  have d2 : decide ((l.length : Int) + (m.length : Int) < 0) = false := by simp; omega
  clear hg hA hB hl hm
  go_enter Try.func34, Try.ntmps34
  go_wp2
  refine wp_loop_rounds 3 ?_
  rw [rounds_succ]
  go_wp2
  simp only [e2]
  rw [rounds_succ]
  go_wp2
  simp only [e3]
  rw [rounds_succ]
  go_wp2_with (first | (go_at_call 35; refine (grow_own _ ((l.length : Int) + (m.length : Int)) (by omega) (by have := HL.out; have := HM.out; omega)).mono ?_; rintro e w1 ⟨v1, rfl, hR, hb⟩; obtain ⟨A1, c1, rfl⟩ := Kd.R_slice hR; have b1 := blk_below HG.out hb; have q0 := blk_cell b1 0; have q1 := blk_cell b1 1; have HG1 := Aside0.mk b1; have HR1 := Aside0.mk hR; have Hb1 := Aside0.mk hb; clear b1 hR hb k0 k1))
  refine wp_loop_rounds 3 ?_
  rw [rounds_succ]
  go_wp2_with (first | ((with_reducible refine gate_builtin (b := .append) (xs := #[.tmp 31, .tmp 32]) rfl ?_); (try (refine gate_guard (by rfl) ?_; dsimp only)); at_builtin; refine Kd.R_append_rows (Kd.int .u8) (w0 := w) w.heap.size rfl (.tmp 31) (.tmp 32) 22 5 (.int .u8 0) 1 rfl Try.underlying22 info5 rfl (by decide) (by omega) (.slice A1 0 c1) (([] : List Int)) l _ _ _ (fun _ => True) (fun _ => False) rfl rfl ?aO ?aR (fun _ _ h => h) (fun _ h => h.elim) ?aF ?aB ?aS ?aL ?_; (case aR => exact Kd.C_below HA.out Hb1.out); (case aB => exact Hb1.out); (case aF => exact fun _ _ => trivial); (case aO => exact HR1.out); (case aS => exact below_size Hb1.out); (case aL => have := HL.out; have := HM.out; simp; omega); intro v2 w2 ho hb hg hat; have HR2 := Aside0.mk ho; have Hb2 := Aside0.mk hb; obtain ⟨A2, c2, rfl⟩ := Kd.R_slice ho; have b_ := blk_below HG.out hb; have p2 := blk_cell b_ 0; have r2 := blk_cell b_ 1; clear ho hb hg hat b_))
  rw [rounds_succ]
  go_wp2_with (first | ((with_reducible refine gate_builtin (b := .append) (xs := #[.tmp 31, .tmp 32]) rfl ?_); (try (refine gate_guard (by rfl) ?_; dsimp only)); at_builtin; refine Kd.R_append_rows (Kd.int .u8) (w0 := w) w.heap.size rfl (.tmp 31) (.tmp 32) 22 5 (.int .u8 0) 1 rfl Try.underlying22 info5 rfl (by decide) (by omega) (.slice A2 ([] ++ l).length c2) ([] ++ l) m _ _ _ (fun _ => True) (fun _ => False) rfl rfl ?aO ?aR (fun _ _ h => h) (fun _ h => h.elim) ?aF ?aB ?aS ?aL ?_; (case aR => exact Kd.C_below HB.out Hb2.out); (case aB => exact Hb2.out); (case aF => exact fun _ _ => trivial); (case aO => exact HR2.out); (case aS => exact below_size Hb2.out); (case aL => have := HL.out; have := HM.out; simp; omega); intro v3 w3 ho hb hg hat; have HR3 := Aside0.mk ho; have Hb3 := Aside0.mk hb; obtain ⟨A3, c3, rfl⟩ := Kd.R_slice ho; have b_ := blk_below HG.out hb; have p3 := blk_cell b_ 0; have r3 := blk_cell b_ 1; clear ho hb hg hat b_))
  rw [rounds_succ]
  go_wp2
  go_ret
  exact ⟨_, rfl, by simpa using HR3.out, Hb3.out⟩
end Go.Proofs.Ytlldfihhdbbicaa.P
