/- sess.May, pelicanref18.May. Printed by genmay.py. -/
import Derived.Test.YtmhphkclgdaajaaHSPlain
import Derived.Test.YtmhphkclgdaajaaHSClone
namespace Go.Proofs.Ytmhphkclgdaajaa.P
open Go.RowKit Go.Lib Go.Proofs.YtmhphkclgdaajaaW.PrintWords Go.Proofs.YtmhphkclgdaajaaW.PrintLast Go.Proofs.YtmhphkclgdaajaaW.PrintMore
set_option linter.unusedVariables false
set_option linter.unusedSimpArgs false
theorem cut_toS (A : Option Addr) (n c i : Nat) (hm : i ≤ n) (hc : n ≤ c) : ∀ W : World, (Instr.slice 22 (.slice A n c) none (some (.int .i64 i)) none).run Try.prog W = .ok (.slice A i c) W := by
  obtain ⟨i0, hi, hzz⟩ := Option.map_eq_some_iff.1 infoZ
  exact cut_to 22 35 .i64 Try.underlying22 hi A n c i (by omega) (by omega) hc
theorem find_at (i : Nat) (d : Int) (l : List Ses) (A : Option Addr) (c : Nat) (W : World) (hr : Kd.C kS W A l.length l) (hi : i ≤ l.length) :
    Calls Try.prog 12 #[.slice A i c, .int .u64 d] W fun e w' => e = .returned (.int .i64 (findS (l.take i) d)) ∧ Below W.heap.size W w' := by
  have h := Kd.C_take hr hi
  have hl : (l.take i).length = i := by rw [List.length_take]; omega
  have h2 := find_any d (l.take i) A c W h
  rwa [hl] at h2
set_option maxHeartbeats 2000000 in
set_option maxRecDepth 100000 in
theorem mayL_any (l : List Ses) (A : Option Addr) (c : Nat) (W : World) (hr : Kd.C kS W A l.length l) (hc : l.length ≤ c) :
    Calls Try.prog 13 #[.slice A l.length c] W fun e w' => e = .returned (.bool (mayS l)) ∧ Below W.heap.size W w' := by
  have hml : l.length ≤ 9223372036854775807 := hr.2.1
  have HC := Aside0.mk hr
  have HCA := Aside0.mk hc
  have HB := Aside0.mk (Below.refl W.heap.size W)
  clear hr hc
  go_enter Try.func13, Try.ntmps13
  go_wp2
  go_loopw [7] (fun v wr => ∃ i : Nat, i ≤ l.length ∧ v = .int .i64 i ∧ Aside0 (okTo l i) ∧ Aside0 (Below W.heap.size W wr)) (fun v _ => l.length - (intOf v).toNat)
  case atStart => exact ⟨0, by omega, rfl, ⟨okTo_zero l⟩, HB⟩
  case round =>
    clear HB
    obtain ⟨i, hi, rfl, HS, HB⟩ := hrel
    obtain ⟨wo, rfl⟩ : ∃ wo : World, wo = wr := ⟨_, rfl⟩
    by_cases hlt : i < l.length
    · obtain ⟨x, hx⟩ : ∃ x, l[i]? = some x := ⟨_, List.getElem?_eq_getElem hlt⟩
      obtain ⟨ax, e0, hcx, _⟩ := at_S (Kd.C_below HC.out HB.out) i hlt x hx
      subst e0
      have HX := Aside0.mk hcx
      have H1 := Aside0.mk hx
      have HI := Aside0.mk hi
      have hcut := cut_toS (some ax) l.length c i hi HCA.out
      clear hcx hx
      cases hm : mayB x with
      | false =>
        have HM := Aside0.mk hm
        have HN := Aside0.mk (show mayS l = false from decide_eq_false (okTo_not H1.out (fun h => by rw [HM.out] at h; exact absurd h.1 (by decide))))
        clear hm
        go_wp2_with (first
          | (with_reducible refine load_S (.tmp 10) rfl rfl (p := ax.add (i * 39)) rfl HX.out ?_)
          | (with_reducible refine store_S (.tmp 4) (.tmp 11) rfl rfl rfl rfl rfl rfl ?_; intro w1 hX hb_; have X1 := Aside0.mk hX; have HB1 := Aside0.mk (below_step HB.out hb_); clear hX hb_))
        have X1d := Aside0.mk (blk_drew X1.out)
        have HB1d := Aside0.mk (below_drew HB1.out)
        clear X1 HB1
        have X1 := X1d
        have HB1 := HB1d
        refine start_ (n := 12) (S := fun w' => w'.heap[wo.heap.size]? = some (.cells (sca x) 35 (0, 0)) ∧ w'.cell? ⟨wo.heap.size, 2, none⟩ = some (.int .u64 x.draw)) (ds := []) #[false, false, false, false, false, false, false, false, false, false, false, false] (by kernel_rfl) rfl rfl ⟨X1d.out, (cellsS X1d.out).2.2.1⟩ (fun hHeld => ?_)
        refine take_ (i := 0) (N := some 12) (v := ?_) (a' := ?_) #[true, false, false, false, false, false, false, false, false, false, false, false] rfl rfl (by kernel_rfl) (fun _ _ _ h => h) (Or.inl ⟨by rfl, ?_⟩) hHeld ?_ ?_
        rotate_left
        · rintro w' ⟨s0, s1⟩
          rw [exec_loadS (.tmp 4) (by rfl) (by rfl) (cells_box s0)]
        rotate_left
        · simp only [Act.put, List.setIfInBounds_toArray, List.set_cons_zero, List.set_cons_succ, i64_w, i32_w]
          rfl
        refine one_ (i := 1) (N := some 13) #[true, true, false, false, false, false, false, false, false, false, false, false] rfl rfl (by kernel_rfl) (by decide) (fun K hK => ?_)
        refine goes_ Try.func32 (by kernel_rfl) rfl #[.agg (sca x)] (by rfl) rfl rfl (by simp only [List.map_toArray, List.map_cons, List.map_nil]; rfl) ?_
        with_reducible refine (may_any x _).mono ?_
        rintro e w_ ⟨he_, hb_⟩
        rw [HM.out] at he_
        subst he_
        refine ⟨_, rfl, ?_⟩
        have X1 := Aside0.mk (blk_below X1.out hb_)
        have HB1 := Aside0.mk (below_step HB1.out hb_)
        clear hb_
        refine hK.out _ _ ⟨X1.out, (cellsS X1.out).2.2.1⟩ (fun hHeld => ?_)
        clear hK K
        refine norm_ (a' := ?_) ?_ ?_
        rotate_left
        · show Act.put _ (some 13) _ = _
          simp only [Act.put, List.setIfInBounds_toArray, List.set_cons_zero, List.set_cons_succ, i64_w, i32_w]
          rfl
        refine pure_ (i := 2) (N := some 14) (v := ?_) (a' := ?_) #[true, true, true, false, false, false, false, false, false, false, false, false] rfl rfl (by kernel_rfl) (fun _ _ _ h => h) (Or.inl ⟨by rfl, ?_⟩) ?_ ?_
        rotate_left
        · intro w'
          go_simp
          with_reducible rfl
        rotate_left
        · simp only [Act.put, List.setIfInBounds_toArray, List.set_cons_zero, List.set_cons_succ, i64_w, i32_w]
          rfl
        refine pure_ (i := 3) (N := some 15) (v := ?_) (a' := ?_) #[true, true, true, true, false, false, false, false, false, false, false, false] rfl rfl (by kernel_rfl) (fun _ _ _ h => h) (Or.inl ⟨by rfl, ?_⟩) ?_ ?_
        rotate_left
        · intro w'
          go_simp
          with_reducible rfl
        rotate_left
        · simp only [Act.put, List.setIfInBounds_toArray, List.set_cons_zero, List.set_cons_succ, i64_w, i32_w]
          rfl
        refine pure_ (i := 4) (N := some 16) (v := undef) (a' := ?_) #[true, true, true, true, true, false, false, false, false, false, false, false] rfl rfl (by kernel_rfl) (fun _ _ _ h => h) (Or.inr ⟨by rfl, rfl⟩) ?_ ?_
        rotate_left
        · simp only [Act.put, List.setIfInBounds_toArray, List.set_cons_zero, List.set_cons_succ, i64_w, i32_w]
          rfl
        refine pure_ (i := 5) (N := some 17) (v := undef) (a' := ?_) #[true, true, true, true, true, true, false, false, false, false, false, false] rfl rfl (by kernel_rfl) (fun _ _ _ h => h) (Or.inr ⟨by rfl, rfl⟩) ?_ ?_
        rotate_left
        · simp only [Act.put, List.setIfInBounds_toArray, List.set_cons_zero, List.set_cons_succ, i64_w, i32_w]
          rfl
        refine pure_ (i := 6) (N := some 18) (v := undef) (a' := ?_) #[true, true, true, true, true, true, true, false, false, false, false, false] rfl rfl (by kernel_rfl) (fun _ _ _ h => h) (Or.inr ⟨by rfl, rfl⟩) ?_ ?_
        rotate_left
        · simp only [Act.put, List.setIfInBounds_toArray, List.set_cons_zero, List.set_cons_succ, i64_w, i32_w]
          rfl
        refine pure_ (i := 7) (N := some 19) (v := undef) (a' := ?_) #[true, true, true, true, true, true, true, true, false, false, false, false] rfl rfl (by kernel_rfl) (fun _ _ _ h => h) (Or.inr ⟨by rfl, rfl⟩) ?_ ?_
        rotate_left
        · simp only [Act.put, List.setIfInBounds_toArray, List.set_cons_zero, List.set_cons_succ, i64_w, i32_w]
          rfl
        refine pure_ (i := 8) (N := some 20) (v := undef) (a' := ?_) #[true, true, true, true, true, true, true, true, true, false, false, false] rfl rfl (by kernel_rfl) (fun _ _ _ h => h) (Or.inr ⟨by rfl, rfl⟩) ?_ ?_
        rotate_left
        · simp only [Act.put, List.setIfInBounds_toArray, List.set_cons_zero, List.set_cons_succ, i64_w, i32_w]
          rfl
        refine pure_ (i := 9) (N := some 21) (v := undef) (a' := ?_) #[true, true, true, true, true, true, true, true, true, true, false, false] rfl rfl (by kernel_rfl) (fun _ _ _ h => h) (Or.inr ⟨by rfl, rfl⟩) ?_ ?_
        rotate_left
        · simp only [Act.put, List.setIfInBounds_toArray, List.set_cons_zero, List.set_cons_succ, i64_w, i32_w]
          rfl
        refine pure_ (i := 10) (N := some 22) (v := undef) (a' := ?_) #[true, true, true, true, true, true, true, true, true, true, true, false] rfl rfl (by kernel_rfl) (fun _ _ _ h => h) (Or.inr ⟨by rfl, rfl⟩) ?_ ?_
        rotate_left
        · simp only [Act.put, List.setIfInBounds_toArray, List.set_cons_zero, List.set_cons_succ, i64_w, i32_w]
          rfl
        refine pure_ (i := 11) (N := some 23) (v := ?_) (a' := ?_) #[true, true, true, true, true, true, true, true, true, true, true, true] rfl rfl (by kernel_rfl) (fun _ _ _ h => h) (Or.inl ⟨by rfl, ?_⟩) ?_ ?_
        rotate_left
        · intro w'
          go_simp
          with_reducible rfl
        rotate_left
        · simp only [Act.put, List.setIfInBounds_toArray, List.set_cons_zero, List.set_cons_succ, i64_w, i32_w]
          rfl
        refine done_ (by kernel_rfl) ?_
        go_wp2
        go_ret
        exact ⟨by rw [HN.out]; rfl, HB1.out⟩
      | true =>
        have HM := Aside0.mk hm
        clear hm
        by_cases hf : findS (l.take i) x.draw = -1
        · have HN := Aside0.mk ((okTo_succ H1.out).2 ⟨HS.out, HM.out, hf⟩)
          have hf2 : (findS (l.take i) x.draw == -1) = true := by simp [hf]
          obtain ⟨r, hr⟩ : ∃ r, r = findS (l.take i) x.draw := ⟨_, rfl⟩
          clear hr r
          have HF := Aside0.mk hf
          clear hf hf2
          go_wp2_with (first
            | (with_reducible refine load_S (.tmp 10) rfl rfl (p := ax.add (i * 39)) rfl HX.out ?_)
            | (with_reducible refine store_S (.tmp 4) (.tmp 11) rfl rfl rfl rfl rfl rfl ?_; intro w1 hX hb_; have X1 := Aside0.mk hX; have HB1 := Aside0.mk (below_step HB.out hb_); clear hX hb_))
          have X1d := Aside0.mk (blk_drew X1.out)
          have HB1d := Aside0.mk (below_drew HB1.out)
          clear X1 HB1
          have X1 := X1d
          have HB1 := HB1d
          refine start_ (n := 12) (S := fun w' => w'.heap[wo.heap.size]? = some (.cells (sca x) 35 (0, 0)) ∧ w'.cell? ⟨wo.heap.size, 2, none⟩ = some (.int .u64 x.draw)) (ds := []) #[false, false, false, false, false, false, false, false, false, false, false, false] (by kernel_rfl) rfl rfl ⟨X1d.out, (cellsS X1d.out).2.2.1⟩ (fun hHeld => ?_)
          refine take_ (i := 0) (N := some 12) (v := ?_) (a' := ?_) #[true, false, false, false, false, false, false, false, false, false, false, false] rfl rfl (by kernel_rfl) (fun _ _ _ h => h) (Or.inl ⟨by rfl, ?_⟩) hHeld ?_ ?_
          rotate_left
          · rintro w' ⟨s0, s1⟩
            rw [exec_loadS (.tmp 4) (by rfl) (by rfl) (cells_box s0)]
          rotate_left
          · simp only [Act.put, List.setIfInBounds_toArray, List.set_cons_zero, List.set_cons_succ, i64_w, i32_w]
            rfl
          refine one_ (i := 1) (N := some 13) #[true, true, false, false, false, false, false, false, false, false, false, false] rfl rfl (by kernel_rfl) (by decide) (fun K hK => ?_)
          refine goes_ Try.func32 (by kernel_rfl) rfl #[.agg (sca x)] (by rfl) rfl rfl (by simp only [List.map_toArray, List.map_cons, List.map_nil]; rfl) ?_
          with_reducible refine (may_any x _).mono ?_
          rintro e w_ ⟨he_, hb_⟩
          rw [HM.out] at he_
          subst he_
          refine ⟨_, rfl, ?_⟩
          have X1 := Aside0.mk (blk_below X1.out hb_)
          have HB1 := Aside0.mk (below_step HB1.out hb_)
          clear hb_
          refine hK.out _ _ ⟨X1.out, (cellsS X1.out).2.2.1⟩ (fun hHeld => ?_)
          clear hK K
          refine norm_ (a' := ?_) ?_ ?_
          rotate_left
          · show Act.put _ (some 13) _ = _
            simp only [Act.put, List.setIfInBounds_toArray, List.set_cons_zero, List.set_cons_succ, i64_w, i32_w]
            rfl
          refine pure_ (i := 2) (N := some 14) (v := ?_) (a' := ?_) #[true, true, true, false, false, false, false, false, false, false, false, false] rfl rfl (by kernel_rfl) (fun _ _ _ h => h) (Or.inl ⟨by rfl, ?_⟩) ?_ ?_
          rotate_left
          · intro w'
            go_simp
            with_reducible rfl
          rotate_left
          · simp only [Act.put, List.setIfInBounds_toArray, List.set_cons_zero, List.set_cons_succ, i64_w, i32_w]
            rfl
          refine pure_ (i := 3) (N := some 15) (v := ?_) (a' := ?_) #[true, true, true, true, false, false, false, false, false, false, false, false] rfl rfl (by kernel_rfl) (fun _ _ _ h => h) (Or.inl ⟨by rfl, ?_⟩) ?_ ?_
          rotate_left
          · intro w'
            go_simp
            with_reducible rfl
          rotate_left
          · simp only [Act.put, List.setIfInBounds_toArray, List.set_cons_zero, List.set_cons_succ, i64_w, i32_w]
            rfl
          refine pure_ (i := 4) (N := some 16) (v := ?_) (a' := ?_) #[true, true, true, true, true, false, false, false, false, false, false, false] rfl rfl (by kernel_rfl) (fun _ _ _ h => h) (Or.inl ⟨by rfl, ?_⟩) ?_ ?_
          rotate_left
          · intro w'
            go_simp
            with_reducible rfl
          rotate_left
          · simp only [Act.put, List.setIfInBounds_toArray, List.set_cons_zero, List.set_cons_succ, i64_w, i32_w]
            rfl
          refine pure_ (i := 5) (N := some 17) (v := ?_) (a' := ?_) #[true, true, true, true, true, true, false, false, false, false, false, false] rfl rfl (by kernel_rfl) (fun _ _ _ h => h) (Or.inl ⟨by rfl, ?_⟩) ?_ ?_
          rotate_left
          · intro w'
            go_simp
            with_reducible rfl
          rotate_left
          · simp only [Act.put, List.setIfInBounds_toArray, List.set_cons_zero, List.set_cons_succ, i64_w, i32_w]
            rfl
          refine pure_ (i := 6) (N := some 18) (v := ?_) (a' := ?_) #[true, true, true, true, true, true, true, false, false, false, false, false] rfl rfl (by kernel_rfl) (fun _ _ _ h => h) (Or.inl ⟨by rfl, ?_⟩) ?_ ?_
          rotate_left
          · intro w'
            go_simp
            with_reducible rfl
          rotate_left
          · simp only [Act.put, List.setIfInBounds_toArray, List.set_cons_zero, List.set_cons_succ, i64_w, i32_w]
            rfl
          refine pure_ (i := 7) (N := some 19) (v := ?_) (a' := ?_) #[true, true, true, true, true, true, true, true, false, false, false, false] rfl rfl (by kernel_rfl) (fun _ _ _ h => h) (Or.inl ⟨by rfl, ?_⟩) ?_ ?_
          rotate_left
          · intro w'
            go_simp
            with_reducible rfl
          rotate_left
          · simp only [Act.put, List.setIfInBounds_toArray, List.set_cons_zero, List.set_cons_succ, i64_w, i32_w]
            rfl
          refine take_ (i := 8) (N := some 20) (v := ?_) (a' := ?_) #[true, true, true, true, true, true, true, true, true, false, false, false] rfl rfl (by kernel_rfl) (fun _ _ _ h => h) (Or.inl ⟨by rfl, ?_⟩) hHeld ?_ ?_
          rotate_left
          · rintro w' ⟨s0, s1⟩
            go_simp
            with_reducible rfl
          rotate_left
          · simp only [Act.put, List.setIfInBounds_toArray, List.set_cons_zero, List.set_cons_succ, i64_w, i32_w]
            rfl
          refine one_ (i := 9) (N := some 21) #[true, true, true, true, true, true, true, true, true, true, false, false] rfl rfl (by kernel_rfl) (by decide) (fun K hK => ?_)
          refine goes_ Try.func12 (by kernel_rfl) rfl #[.slice (some ax) i c, .int .u64 x.draw] (by rfl) rfl rfl (by simp only [List.map_toArray, List.map_cons, List.map_nil]; rfl) ?_
          with_reducible refine (find_at i x.draw l (some ax) c _ (Kd.C_below HC.out HB1.out) HI.out).mono ?_
          rintro e w_ ⟨he_, hb_⟩
          rw [HF.out] at he_
          subst he_
          refine ⟨_, rfl, ?_⟩
          have X1 := Aside0.mk (blk_below X1.out hb_)
          have HB1 := Aside0.mk (below_step HB1.out hb_)
          clear hb_
          refine hK.out _ _ ⟨X1.out, (cellsS X1.out).2.2.1⟩ (fun hHeld => ?_)
          clear hK K
          refine norm_ (a' := ?_) ?_ ?_
          rotate_left
          · show Act.put _ (some 21) _ = _
            simp only [Act.put, List.setIfInBounds_toArray, List.set_cons_zero, List.set_cons_succ, i64_w, i32_w]
            rfl
          refine pure_ (i := 10) (N := some 22) (v := ?_) (a' := ?_) #[true, true, true, true, true, true, true, true, true, true, true, false] rfl rfl (by kernel_rfl) (fun _ _ _ h => h) (Or.inl ⟨by rfl, ?_⟩) ?_ ?_
          rotate_left
          · intro w'
            go_simp
            with_reducible rfl
          rotate_left
          · simp only [Act.put, List.setIfInBounds_toArray, List.set_cons_zero, List.set_cons_succ, i64_w, i32_w]
            rfl
          refine pure_ (i := 11) (N := some 23) (v := ?_) (a' := ?_) #[true, true, true, true, true, true, true, true, true, true, true, true] rfl rfl (by kernel_rfl) (fun _ _ _ h => h) (Or.inl ⟨by rfl, ?_⟩) ?_ ?_
          rotate_left
          · intro w'
            go_simp
            with_reducible rfl
          rotate_left
          · simp only [Act.put, List.setIfInBounds_toArray, List.set_cons_zero, List.set_cons_succ, i64_w, i32_w]
            rfl
          refine done_ (by kernel_rfl) ?_
          go_wp2
          go_roundw
          case rel => exact ⟨i + 1, by omega, by go_num, HN, HB1⟩
          case measure => simp [intOf]; omega
        · have HN := Aside0.mk (show mayS l = false from decide_eq_false (okTo_not H1.out (fun h => hf h.2)))
          obtain ⟨r, hr⟩ : ∃ r, findS (l.take i) x.draw = r := ⟨_, rfl⟩
          have HF := Aside0.mk hr
          rw [hr] at hf
          have hf2 : (r == -1) = false := by simpa using hf
          clear hr hf
          go_wp2_with (first
            | (with_reducible refine load_S (.tmp 10) rfl rfl (p := ax.add (i * 39)) rfl HX.out ?_)
            | (with_reducible refine store_S (.tmp 4) (.tmp 11) rfl rfl rfl rfl rfl rfl ?_; intro w1 hX hb_; have X1 := Aside0.mk hX; have HB1 := Aside0.mk (below_step HB.out hb_); clear hX hb_))
          have X1d := Aside0.mk (blk_drew X1.out)
          have HB1d := Aside0.mk (below_drew HB1.out)
          clear X1 HB1
          have X1 := X1d
          have HB1 := HB1d
          refine start_ (n := 12) (S := fun w' => w'.heap[wo.heap.size]? = some (.cells (sca x) 35 (0, 0)) ∧ w'.cell? ⟨wo.heap.size, 2, none⟩ = some (.int .u64 x.draw)) (ds := []) #[false, false, false, false, false, false, false, false, false, false, false, false] (by kernel_rfl) rfl rfl ⟨X1d.out, (cellsS X1d.out).2.2.1⟩ (fun hHeld => ?_)
          refine take_ (i := 0) (N := some 12) (v := ?_) (a' := ?_) #[true, false, false, false, false, false, false, false, false, false, false, false] rfl rfl (by kernel_rfl) (fun _ _ _ h => h) (Or.inl ⟨by rfl, ?_⟩) hHeld ?_ ?_
          rotate_left
          · rintro w' ⟨s0, s1⟩
            rw [exec_loadS (.tmp 4) (by rfl) (by rfl) (cells_box s0)]
          rotate_left
          · simp only [Act.put, List.setIfInBounds_toArray, List.set_cons_zero, List.set_cons_succ, i64_w, i32_w]
            rfl
          refine one_ (i := 1) (N := some 13) #[true, true, false, false, false, false, false, false, false, false, false, false] rfl rfl (by kernel_rfl) (by decide) (fun K hK => ?_)
          refine goes_ Try.func32 (by kernel_rfl) rfl #[.agg (sca x)] (by rfl) rfl rfl (by simp only [List.map_toArray, List.map_cons, List.map_nil]; rfl) ?_
          with_reducible refine (may_any x _).mono ?_
          rintro e w_ ⟨he_, hb_⟩
          rw [HM.out] at he_
          subst he_
          refine ⟨_, rfl, ?_⟩
          have X1 := Aside0.mk (blk_below X1.out hb_)
          have HB1 := Aside0.mk (below_step HB1.out hb_)
          clear hb_
          refine hK.out _ _ ⟨X1.out, (cellsS X1.out).2.2.1⟩ (fun hHeld => ?_)
          clear hK K
          refine norm_ (a' := ?_) ?_ ?_
          rotate_left
          · show Act.put _ (some 13) _ = _
            simp only [Act.put, List.setIfInBounds_toArray, List.set_cons_zero, List.set_cons_succ, i64_w, i32_w]
            rfl
          refine pure_ (i := 2) (N := some 14) (v := ?_) (a' := ?_) #[true, true, true, false, false, false, false, false, false, false, false, false] rfl rfl (by kernel_rfl) (fun _ _ _ h => h) (Or.inl ⟨by rfl, ?_⟩) ?_ ?_
          rotate_left
          · intro w'
            go_simp
            with_reducible rfl
          rotate_left
          · simp only [Act.put, List.setIfInBounds_toArray, List.set_cons_zero, List.set_cons_succ, i64_w, i32_w]
            rfl
          refine pure_ (i := 3) (N := some 15) (v := ?_) (a' := ?_) #[true, true, true, true, false, false, false, false, false, false, false, false] rfl rfl (by kernel_rfl) (fun _ _ _ h => h) (Or.inl ⟨by rfl, ?_⟩) ?_ ?_
          rotate_left
          · intro w'
            go_simp
            with_reducible rfl
          rotate_left
          · simp only [Act.put, List.setIfInBounds_toArray, List.set_cons_zero, List.set_cons_succ, i64_w, i32_w]
            rfl
          refine pure_ (i := 4) (N := some 16) (v := ?_) (a' := ?_) #[true, true, true, true, true, false, false, false, false, false, false, false] rfl rfl (by kernel_rfl) (fun _ _ _ h => h) (Or.inl ⟨by rfl, ?_⟩) ?_ ?_
          rotate_left
          · intro w'
            go_simp
            with_reducible rfl
          rotate_left
          · simp only [Act.put, List.setIfInBounds_toArray, List.set_cons_zero, List.set_cons_succ, i64_w, i32_w]
            rfl
          refine pure_ (i := 5) (N := some 17) (v := ?_) (a' := ?_) #[true, true, true, true, true, true, false, false, false, false, false, false] rfl rfl (by kernel_rfl) (fun _ _ _ h => h) (Or.inl ⟨by rfl, ?_⟩) ?_ ?_
          rotate_left
          · intro w'
            go_simp
            with_reducible rfl
          rotate_left
          · simp only [Act.put, List.setIfInBounds_toArray, List.set_cons_zero, List.set_cons_succ, i64_w, i32_w]
            rfl
          refine pure_ (i := 6) (N := some 18) (v := ?_) (a' := ?_) #[true, true, true, true, true, true, true, false, false, false, false, false] rfl rfl (by kernel_rfl) (fun _ _ _ h => h) (Or.inl ⟨by rfl, ?_⟩) ?_ ?_
          rotate_left
          · intro w'
            go_simp
            with_reducible rfl
          rotate_left
          · simp only [Act.put, List.setIfInBounds_toArray, List.set_cons_zero, List.set_cons_succ, i64_w, i32_w]
            rfl
          refine pure_ (i := 7) (N := some 19) (v := ?_) (a' := ?_) #[true, true, true, true, true, true, true, true, false, false, false, false] rfl rfl (by kernel_rfl) (fun _ _ _ h => h) (Or.inl ⟨by rfl, ?_⟩) ?_ ?_
          rotate_left
          · intro w'
            go_simp
            with_reducible rfl
          rotate_left
          · simp only [Act.put, List.setIfInBounds_toArray, List.set_cons_zero, List.set_cons_succ, i64_w, i32_w]
            rfl
          refine take_ (i := 8) (N := some 20) (v := ?_) (a' := ?_) #[true, true, true, true, true, true, true, true, true, false, false, false] rfl rfl (by kernel_rfl) (fun _ _ _ h => h) (Or.inl ⟨by rfl, ?_⟩) hHeld ?_ ?_
          rotate_left
          · rintro w' ⟨s0, s1⟩
            go_simp
            with_reducible rfl
          rotate_left
          · simp only [Act.put, List.setIfInBounds_toArray, List.set_cons_zero, List.set_cons_succ, i64_w, i32_w]
            rfl
          refine one_ (i := 9) (N := some 21) #[true, true, true, true, true, true, true, true, true, true, false, false] rfl rfl (by kernel_rfl) (by decide) (fun K hK => ?_)
          refine goes_ Try.func12 (by kernel_rfl) rfl #[.slice (some ax) i c, .int .u64 x.draw] (by rfl) rfl rfl (by simp only [List.map_toArray, List.map_cons, List.map_nil]; rfl) ?_
          with_reducible refine (find_at i x.draw l (some ax) c _ (Kd.C_below HC.out HB1.out) HI.out).mono ?_
          rintro e w_ ⟨he_, hb_⟩
          rw [HF.out] at he_
          subst he_
          refine ⟨_, rfl, ?_⟩
          have X1 := Aside0.mk (blk_below X1.out hb_)
          have HB1 := Aside0.mk (below_step HB1.out hb_)
          clear hb_
          refine hK.out _ _ ⟨X1.out, (cellsS X1.out).2.2.1⟩ (fun hHeld => ?_)
          clear hK K
          refine norm_ (a' := ?_) ?_ ?_
          rotate_left
          · show Act.put _ (some 21) _ = _
            simp only [Act.put, List.setIfInBounds_toArray, List.set_cons_zero, List.set_cons_succ, i64_w, i32_w]
            rfl
          refine pure_ (i := 10) (N := some 22) (v := ?_) (a' := ?_) #[true, true, true, true, true, true, true, true, true, true, true, false] rfl rfl (by kernel_rfl) (fun _ _ _ h => h) (Or.inl ⟨by rfl, ?_⟩) ?_ ?_
          rotate_left
          · intro w'
            go_simp
            with_reducible rfl
          rotate_left
          · simp only [Act.put, List.setIfInBounds_toArray, List.set_cons_zero, List.set_cons_succ, i64_w, i32_w]
            rfl
          refine pure_ (i := 11) (N := some 23) (v := ?_) (a' := ?_) #[true, true, true, true, true, true, true, true, true, true, true, true] rfl rfl (by kernel_rfl) (fun _ _ _ h => h) (Or.inl ⟨by rfl, ?_⟩) ?_ ?_
          rotate_left
          · intro w'
            go_simp
            with_reducible rfl
          rotate_left
          · simp only [Act.put, List.setIfInBounds_toArray, List.set_cons_zero, List.set_cons_succ, i64_w, i32_w]
            rfl
          refine done_ (by kernel_rfl) ?_
          go_wp2
          go_ret
          exact ⟨by rw [HN.out]; rfl, HB1.out⟩
    · obtain rfl : i = l.length := by omega
      by_cases h4 : l.length ≤ 4
      · have HM := Aside0.mk (show mayS l = true from decide_eq_true ((okTo_all l).2 ⟨HS.out, h4⟩))
        go_wp2
        go_ret
        exact ⟨by rw [HM.out]; exact ret_bool (decide_eq_true (by omega)), HB.out⟩
      · have HM := Aside0.mk (show mayS l = false from decide_eq_false (fun h => h4 ((okTo_all l).1 h).2))
        go_wp2
        go_ret
        exact ⟨by rw [HM.out]; exact ret_bool (decide_eq_false (by omega)), HB.out⟩
set_option maxHeartbeats 2000000 in
set_option maxRecDepth 100000 in
theorem rmayL_any (l : List Ses) (A : Option Addr) (c : Nat) (W : World) (hr : Kd.C kS W A l.length l) (hc : l.length ≤ c) :
    Calls Try.prog 23 #[.slice A l.length c] W fun e w' => e = .returned (.bool (mayS l)) ∧ Below W.heap.size W w' := by
  have hml : l.length ≤ 9223372036854775807 := hr.2.1
  have HC := Aside0.mk hr
  have HCA := Aside0.mk hc
  have HB := Aside0.mk (Below.refl W.heap.size W)
  clear hr hc
  go_enter Try.func23, Try.ntmps23
  go_wp2
  go_loopw [3] (fun v wr => ∃ i : Nat, i ≤ l.length ∧ v = .int .i64 i ∧ Aside0 (okTo l i) ∧ Aside0 (Below W.heap.size W wr)) (fun v _ => l.length - (intOf v).toNat)
  case atStart => exact ⟨0, by omega, rfl, ⟨okTo_zero l⟩, HB⟩
  case round =>
    clear HB
    obtain ⟨i, hi, rfl, HS, HB⟩ := hrel
    obtain ⟨wo, rfl⟩ : ∃ wo : World, wo = wr := ⟨_, rfl⟩
    by_cases hlt : i < l.length
    · obtain ⟨x, hx⟩ : ∃ x, l[i]? = some x := ⟨_, List.getElem?_eq_getElem hlt⟩
      obtain ⟨ax, e0, hcx, _⟩ := at_S (Kd.C_below HC.out HB.out) i hlt x hx
      have HX := Aside0.mk hcx
      have H1 := Aside0.mk hx
      have HI := Aside0.mk hi
      have HLT := Aside0.mk hlt
      subst e0
      clear hcx hx
      cases hm : mayB x with
      | false =>
        have HM := Aside0.mk hm
        have HN := Aside0.mk (show mayS l = false from decide_eq_false (okTo_not H1.out (fun h => by rw [HM.out] at h; exact absurd h.1 (by decide))))
        clear hm
        go_wp2_with (first
          | (with_reducible refine load_S (.tmp 13) rfl rfl (p := ax.add (i * 39)) rfl HX.out ?_)
          | (go_at_call 38; (with_reducible refine (one_any x _).mono ?_); rintro e w_ ⟨he_, hb_⟩; rw [HM.out] at he_; subst he_; have HB1 := Aside0.mk (below_step HB.out hb_); clear hb_))
        go_ret
        exact ⟨by rw [HN.out]; rfl, HB1.out⟩
      | true =>
        have HM := Aside0.mk hm
        clear hm
        by_cases hf : findS (l.take i) x.draw = -1
        · have HN := Aside0.mk ((okTo_succ H1.out).2 ⟨HS.out, HM.out, hf⟩)
          have HF := Aside0.mk (find_self H1.out hf)
          clear hf
          go_wp2_with (first
            | (with_reducible refine load_S (.tmp 13) rfl rfl (p := ax.add (i * 39)) rfl HX.out ?_)
            | (go_at_call 38; (with_reducible refine (one_any x _).mono ?_); rintro e w_ ⟨he_, hb_⟩; rw [HM.out] at he_; subst he_; have HB1 := Aside0.mk (below_step HB.out hb_); obtain ⟨ad_, e0_, _, _, _, x2, _⟩ := at_S (Kd.C_below HC.out HB1.out) i HLT.out x H1.out; cases e0_; clear hb_)
            | (go_at_call 26; (with_reducible refine (rfind_any x.draw l (some ax) c _ (Kd.C_below HC.out HB1.out)).mono ?_); rintro e w_ ⟨he_, rfl⟩; rw [HF.out] at he_; subst he_))
          go_roundw
          case rel => exact ⟨i + 1, by omega, by go_num, HN, HB1⟩
          case measure => simp [intOf]; omega
        · have HN := Aside0.mk (show mayS l = false from decide_eq_false (okTo_not H1.out (fun h => hf h.2)))
          obtain ⟨r, hr⟩ : ∃ r, findS l x.draw = r := ⟨_, rfl⟩
          have HF := Aside0.mk hr
          have hne := find_other H1.out hf
          rw [hr] at hne
          have hf2 : (r == (i : Int)) = false := by simpa using hne
          clear hr hf hne
          go_wp2_with (first
            | (with_reducible refine load_S (.tmp 13) rfl rfl (p := ax.add (i * 39)) rfl HX.out ?_)
            | (go_at_call 38; (with_reducible refine (one_any x _).mono ?_); rintro e w_ ⟨he_, hb_⟩; rw [HM.out] at he_; subst he_; have HB1 := Aside0.mk (below_step HB.out hb_); obtain ⟨ad_, e0_, _, _, _, x2, _⟩ := at_S (Kd.C_below HC.out HB1.out) i HLT.out x H1.out; cases e0_; clear hb_)
            | (go_at_call 26; (with_reducible refine (rfind_any x.draw l (some ax) c _ (Kd.C_below HC.out HB1.out)).mono ?_); rintro e w_ ⟨he_, rfl⟩; rw [HF.out] at he_; subst he_))
          go_ret
          exact ⟨by rw [HN.out]; rfl, HB1.out⟩
    · obtain rfl : i = l.length := by omega
      by_cases h4 : l.length ≤ 4
      · have HM := Aside0.mk (show mayS l = true from decide_eq_true ((okTo_all l).2 ⟨HS.out, h4⟩))
        go_wp2
        go_ret
        exact ⟨by rw [HM.out]; exact ret_bool (decide_eq_true (by omega)), HB.out⟩
      · have HM := Aside0.mk (show mayS l = false from decide_eq_false (fun h => h4 ((okTo_all l).1 h).2))
        go_wp2
        go_ret
        exact ⟨by rw [HM.out]; exact ret_bool (decide_eq_false (by omega)), HB.out⟩
end Go.Proofs.Ytmhphkclgdaajaa.P
