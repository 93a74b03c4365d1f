/- By hand: entry.Put (an array of nine numbers, and a loop over the sizes). -/
import Derived.Test.YtphfejboahcnhaaPx2
import Derived.Test.YtphfejboahcnhaaHEntry
import Derived.Test.YtphfejboahcnhaaHPureKit
namespace Go.Proofs.Ytphfejboahcnhaa.P
open Go.RowKit Go.Proofs.YtphfejboahcnhaaW.PrintWords Go.Proofs.YtphfejboahcnhaaW.PrintLast Go.Proofs.YtphfejboahcnhaaW.PrintMore
set_option linter.unusedVariables false
set_option linter.unusedSimpArgs false
def entNums (a0_0 a0_1 a0_2 a0_3 a0_4 a0_5 a0_6 a0_7 a0_8 : Int) : List S48 := [⟨a0_0, 1⟩, ⟨a0_1, 4⟩, ⟨a0_2, 4⟩, ⟨a0_3, 1⟩, ⟨a0_4, 8⟩, ⟨a0_5, 8⟩, ⟨a0_6, 1⟩, ⟨a0_7, 2⟩, ⟨a0_8, 1⟩]
/-- entry.Put: None where the numbers Sess and Count are no uint64. -/
def entry_Put.f (k : Nat) (a0_0 : Int) (a0_1 : Int) (a0_2 : Int) (a0_3 : Int) (a0_4 : Int) (a0_5 : Int) (a0_6 : Int) (a0_7 : Int) (a0_8 : Int) : Option (List Int × Bool) :=
  (entry_May.f a0_0 a0_1 a0_2 a0_3 a0_4 a0_5 a0_6 a0_7 a0_8).bind fun m => if m = true then num_Cat.f k (entNums a0_0 a0_1 a0_2 a0_3 a0_4 a0_5 a0_6 a0_7 a0_8) else some ([], false)
theorem entry_Put.mono : ∀ a0_0 a0_1 a0_2 a0_3 a0_4 a0_5 a0_6 a0_7 a0_8 k, LeO (entry_Put.f k a0_0 a0_1 a0_2 a0_3 a0_4 a0_5 a0_6 a0_7 a0_8) (entry_Put.f (k + 1) a0_0 a0_1 a0_2 a0_3 a0_4 a0_5 a0_6 a0_7 a0_8) := by
  intro a0_0 a0_1 a0_2 a0_3 a0_4 a0_5 a0_6 a0_7 a0_8 k
  unfold entry_Put.f
  refine LeO.bind (LeO.refl _) (fun _ => ?_)
  exact LeO.ite (num_Cat.mono _ _) (LeO.refl _)
set_option maxHeartbeats 400000 in
set_option maxRecDepth 100000 in
theorem put_may_no (a0_0 : Int) (a0_1 : Int) (a0_2 : Int) (a0_3 : Int) (a0_4 : Int) (a0_5 : Int) (a0_6 : Int) (a0_7 : Int) (a0_8 : Int) (w : World) (h : entry_May.f a0_0 a0_1 a0_2 a0_3 a0_4 a0_5 a0_6 a0_7 a0_8 = some false) :
    Calls Try.prog 10 #[.agg #[.int .i64 a0_0, .int .i64 a0_1, .int .i64 a0_2, .int .i64 a0_3, .int .u64 a0_4, .int .u64 a0_5, .int .i64 a0_6, .int .i64 a0_7, .int .i64 a0_8]] w fun e w' => e = .returned (.tuple #[.slice none 0 0, .bool false]) ∧ Below w.heap.size w w' := by
  have H := Aside0.mk h
  clear h
  have HB := Aside0.mk (below_alloc (Below.refl w.heap.size w) (.cells #[.int .i64 a0_0, .int .i64 a0_1, .int .i64 a0_2, .int .i64 a0_3, .int .u64 a0_4, .int .u64 a0_5, .int .i64 a0_6, .int .i64 a0_7, .int .i64 a0_8] 25 (0, 0)))
  go_enter Try.func10, Try.ntmps10
  go_wp2_with (first | (go_at_call 18; refine (entry_May.calls _ _ _ _ _ _ _ _ _ _ _ H.out).mono ?_; rintro e w1 ⟨rfl, hb⟩; have HB2 := Aside0.mk (below_step HB.out hb); clear hb))
  go_ret2
  exact ⟨rfl, HB2.out⟩
def entN (a0_0 a0_1 a0_2 a0_3 a0_4 a0_5 a0_6 a0_7 a0_8 : Int) (i : Nat) : Int := [a0_0, a0_1, a0_2, a0_3, a0_4, a0_5, a0_6, a0_7, a0_8].getD i 0
def entK (i : Nat) : Int := [1, 4, 4, 1, 8, 8, 1, 2, 1].getD i 0
theorem ent_take (a0_0 a0_1 a0_2 a0_3 a0_4 a0_5 a0_6 a0_7 a0_8 : Int) (i : Nat) (h : i < 9) : (entNums a0_0 a0_1 a0_2 a0_3 a0_4 a0_5 a0_6 a0_7 a0_8).take (i + 1) = (entNums a0_0 a0_1 a0_2 a0_3 a0_4 a0_5 a0_6 a0_7 a0_8).take i ++ [⟨entN a0_0 a0_1 a0_2 a0_3 a0_4 a0_5 a0_6 a0_7 a0_8 i, entK i⟩] := by
  obtain rfl | rfl | rfl | rfl | rfl | rfl | rfl | rfl | rfl : i = 0 ∨ i = 1 ∨ i = 2 ∨ i = 3 ∨ i = 4 ∨ i = 5 ∨ i = 6 ∨ i = 7 ∨ i = 8 := by omega
  all_goals rfl
theorem ent_cell (a0_0 a0_1 a0_2 a0_3 a0_4 a0_5 a0_6 a0_7 a0_8 : Int) {W : World} {g i : Nat} (h : i < 9) (hg : W.heap[g]? = some (.cells #[.int .u64 a0_0, .int .u64 a0_1, .int .u64 a0_2, .int .u64 a0_3, .int .u64 a0_4, .int .u64 a0_5, .int .u64 a0_6, .int .u64 a0_7, .int .u64 a0_8] 43 (0, 0))) : W.cell? ⟨g, i, none⟩ = some (.int .u64 (entN a0_0 a0_1 a0_2 a0_3 a0_4 a0_5 a0_6 a0_7 a0_8 i)) := by
  rw [blk_cell hg i]
  obtain rfl | rfl | rfl | rfl | rfl | rfl | rfl | rfl | rfl : i = 0 ∨ i = 1 ∨ i = 2 ∨ i = 3 ∨ i = 4 ∨ i = 5 ∨ i = 6 ∨ i = 7 ∨ i = 8 := by omega
  all_goals rfl
theorem wrap_id {x : Int} (h0 : 0 ≤ x) (h1 : x < 18446744073709551616) : x % 18446744073709551616 = x := Int.emod_eq_of_lt h0 h1
set_option maxHeartbeats 1000000 in
set_option maxRecDepth 100000 in
theorem put_may_yes (k : Nat) (a0_0 : Int) (a0_1 : Int) (a0_2 : Int) (a0_3 : Int) (a0_4 : Int) (a0_5 : Int) (a0_6 : Int) (a0_7 : Int) (a0_8 : Int) (r1 : List Int) (r2 : Bool) (w : World) (h : entry_May.f a0_0 a0_1 a0_2 a0_3 a0_4 a0_5 a0_6 a0_7 a0_8 = some true) (hc : num_Cat.f k (entNums a0_0 a0_1 a0_2 a0_3 a0_4 a0_5 a0_6 a0_7 a0_8) = some (r1, r2)) :
    Calls Try.prog 10 #[.agg #[.int .i64 a0_0, .int .i64 a0_1, .int .i64 a0_2, .int .i64 a0_3, .int .u64 a0_4, .int .u64 a0_5, .int .i64 a0_6, .int .i64 a0_7, .int .i64 a0_8]] w fun e w' => ∃ v0_ : Value, e = .returned (.tuple #[v0_, .bool r2]) ∧ Kd.R (Kd.int .u8) 5 w' w.heap.size (fun _ => True) v0_ r1 ∧ Below w.heap.size w w' := by
  have H := Aside0.mk h
  have HC := Aside0.mk hc
  have hm := Option.some.inj h
  simp only [Bool.and_eq_true, inB_iff] at hm
  clear h hc
  have e0 := wrap_id (x := a0_0) (by omega) (by omega)
  have e1 := wrap_id (x := a0_1) (by omega) (by omega)
  have e2 := wrap_id (x := a0_2) (by omega) (by omega)
  have e3 := wrap_id (x := a0_3) (by omega) (by omega)
  have e6 := wrap_id (x := a0_6) (by omega) (by omega)
  have e7 := wrap_id (x := a0_7) (by omega) (by omega)
  have e8 := wrap_id (x := a0_8) (by omega) (by omega)
  clear hm
  have HB := Aside0.mk (below_alloc (Below.refl w.heap.size w) (.cells #[.int .i64 a0_0, .int .i64 a0_1, .int .i64 a0_2, .int .i64 a0_3, .int .u64 a0_4, .int .u64 a0_5, .int .i64 a0_6, .int .i64 a0_7, .int .i64 a0_8] 25 (0, 0)))
  go_enter Try.func10, Try.ntmps10
  go_wp2_with (first | (go_at_call 18; refine (entry_May.calls _ _ _ _ _ _ _ _ _ _ _ H.out).mono ?_; rintro e w1 ⟨rfl, hb⟩; have b1 := blk_below (blk_new w (.cells #[.int .i64 a0_0, .int .i64 a0_1, .int .i64 a0_2, .int .i64 a0_3, .int .u64 a0_4, .int .u64 a0_5, .int .i64 a0_6, .int .i64 a0_7, .int .i64 a0_8] 25 (0, 0))) hb; have c0 := blk_cell b1 0; have c1 := blk_cell b1 1; have c2 := blk_cell b1 2; have c3 := blk_cell b1 3; have c4 := blk_cell b1 4; have c5 := blk_cell b1 5; have c6 := blk_cell b1 6; have c7 := blk_cell b1 7; have c8 := blk_cell b1 8; have HB2 := Aside0.mk (below_step HB.out hb); clear hb b1) | (go_at_call 22; trace_state; refine (entry_sizes.calls _ _ rfl).mono ?_; rintro e w2 ⟨vs, rfl, hR, hb⟩; obtain ⟨gs, cs, rfl, b2, l2, k2, HG2⟩ := Kd.R_form hR (by decide); have HR := Aside0.mk hR; have Hb := Aside0.mk hb; clear hR hb))
  have HA := Aside0.mk (blk_below (blk_new w1 (.cells #[.int .u64 a0_0, .int .u64 a0_1, .int .u64 a0_2, .int .u64 a0_3, .int .u64 a0_4, .int .u64 a0_5, .int .u64 a0_6, .int .u64 a0_7, .int .u64 a0_8] 43 (0, 0))) Hb.out)
  have HB3 := Aside0.mk (below_step (below_alloc HB2.out _) Hb.out)
  have hle : w.heap.size ≤ (w1.alloc (.cells #[.int .u64 a0_0, .int .u64 a0_1, .int .u64 a0_2, .int .u64 a0_3, .int .u64 a0_4, .int .u64 a0_5, .int .u64 a0_6, .int .u64 a0_7, .int .u64 a0_8] 43 (0, 0))).heap.size := (below_alloc HB2.out _).size
  have HR2 := Aside0.mk (Kd.R_lower HR.out hle)
  clear HB2 Hb HR b2 l2 HG2 hle HB c0 c1 c2 c3 c4 c5 c6 c7 c8
  obtain ⟨ga, hga⟩ : ∃ g, g = w1.heap.size := ⟨_, rfl⟩
  rw [← hga] at HA ⊢
  clear hga
  go_loopw [5, 39] (fun v5 v39 wr => ∃ i : Nat, i ≤ 9 ∧ v39 = .int .i64 i ∧ Aside0 (Kd.R k48 48 wr w.heap.size (fun _ => True) v5 ((entNums a0_0 a0_1 a0_2 a0_3 a0_4 a0_5 a0_6 a0_7 a0_8).take i)) ∧ Aside0 (wr.heap[ga]? = some (.cells #[.int .u64 a0_0, .int .u64 a0_1, .int .u64 a0_2, .int .u64 a0_3, .int .u64 a0_4, .int .u64 a0_5, .int .u64 a0_6, .int .u64 a0_7, .int .u64 a0_8] 43 (0, 0))) ∧ Aside0 (Kd.R (Kd.int .i64) 3 wr w.heap.size (fun _ => True) (.slice (some ⟨gs, 0, none⟩) 9 cs) [1, 4, 4, 1, 8, 8, 1, 2, 1]) ∧ Aside0 (Below w.heap.size w wr)) (fun _ v39 _ => 9 - (intOf v39).toNat)
  case atStart => exact ⟨0, by omega, rfl, ⟨Kd.R_nil _ _ _ _ _⟩, HA, HR2, HB3⟩
  case round =>
    clear HA HR2 HB3
    obtain ⟨i, hi, rfl, HO, HA, HR2, HB3⟩ := hrel
    by_cases hlt : i < 9
    · have hca := ent_cell a0_0 a0_1 a0_2 a0_3 a0_4 a0_5 a0_6 a0_7 a0_8 hlt HA.out
      have hck : wr.cell? ⟨gs, i, none⟩ = some (.int .i64 (entK i)) := by
        have := (Kd.R_celln 0 HR2.out (i : Int) (by omega) (by omega)).1
        rwa [Int.toNat_natCast] at this
      have hca' := hca
      have hck' := hck
      have HT := Aside0.mk (ent_take a0_0 a0_1 a0_2 a0_3 a0_4 a0_5 a0_6 a0_7 a0_8 i hlt)
      have HL : Aside0 (((entNums a0_0 a0_1 a0_2 a0_3 a0_4 a0_5 a0_6 a0_7 a0_8).take i).length ≤ 9) := ⟨by rw [List.length_take]; omega⟩
      obtain ⟨x, hx⟩ : ∃ x, x = entN a0_0 a0_1 a0_2 a0_3 a0_4 a0_5 a0_6 a0_7 a0_8 i := ⟨_, rfl⟩
      obtain ⟨y, hy⟩ : ∃ y, y = entK i := ⟨_, rfl⟩
      rw [← hx] at hca' hca HT
      rw [← hy] at hck' hck HT
      clear hx hy
      go_wp2_with (first | ((with_reducible refine gate_builtin (b := .append) (xs := #[.tmp 44, .tmp 50]) rfl ?_); at_builtin; refine Kd.R_append k48 (w0 := w) w.heap.size rfl (.tmp 44) (.tmp 50) 44 48 (.agg #[.int .u64 0, .int .i64 0]) 16 rfl Try.underlying44 info48 rfl (by decide) (by omega) u5 ((entNums a0_0 a0_1 a0_2 a0_3 a0_4 a0_5 a0_6 a0_7 a0_8).take i) (⟨x, y⟩ : S48) [.int .u64 x, .int .i64 y] (fun _ => True) (fun _ => False) rfl rfl ?aP (fun _ hk => hk.elim) ?aF ?aO ?aB ?aS ?aL ?_; (case aP => exact k48_mkM _ _ _ (⟨x, y⟩ : S48)); (case aB => exact HB3.out); (case aF => exact (fun _ _ => trivial)); (case aO => exact HO.out); (case aS => exact HB3.out.size); (case aL => have := HL.out; omega); intro v229 w7 ho hb hg hat; rw [← HT.out] at ho; have HO2 := Aside0.mk ho; have HB4 := Aside0.mk hb; have HA2 := Aside0.mk ((hg.block ga (blk_lt HA.out) (Kd.R_ne HO.out HA.out (by decide))).trans HA.out); have HR3 := Aside0.mk (Kd.R_mono (Kd.R_grown (Kd.R_apartR HR2.out HO.out (by decide)) hg (fun _ hk => hk.2)) (fun _ _ => trivial)); clear ho hb hg hat))
      go_roundw
      case rel => exact ⟨i + 1, by omega, by go_num, HO2, HA2, HR3, HB4⟩
      case measure => simp [intOf]; omega
    · obtain rfl : i = 9 := by omega
      have hR := HO.out
      rw [show (entNums a0_0 a0_1 a0_2 a0_3 a0_4 a0_5 a0_6 a0_7 a0_8).take 9 = entNums a0_0 a0_1 a0_2 a0_3 a0_4 a0_5 a0_6 a0_7 a0_8 from rfl] at hR
      obtain ⟨A, c, rfl, hcl, hC⟩ := Kd.R_reads hR
      have HCL := Aside0.mk hcl
      have HCC := Aside0.mk hC
      clear hR hC hcl
      go_wp2_with (first | (go_at_call 23; refine (num_Cat.calls k A c _ r1 r2 _ HCC.out HCL.out HC.out).mono ?_; rintro e w3 ⟨v0, rfl, hR, hb⟩; have HF := Aside0.mk (Kd.R_lower hR HB3.out.size); have HB4 := Aside0.mk (below_step HB3.out hb); clear hR hb))
      go_ret2
      exact ⟨_, rfl, HF.out, HB4.out⟩
theorem entry_Put.calls (k : Nat) (a0_0 : Int) (a0_1 : Int) (a0_2 : Int) (a0_3 : Int) (a0_4 : Int) (a0_5 : Int) (a0_6 : Int) (a0_7 : Int) (a0_8 : Int) (r1 : List Int) (r2 : Bool) (w : World) (h : entry_Put.f k a0_0 a0_1 a0_2 a0_3 a0_4 a0_5 a0_6 a0_7 a0_8 = some (r1, r2)) :
    Calls Try.prog 10 #[.agg #[.int .i64 a0_0, .int .i64 a0_1, .int .i64 a0_2, .int .i64 a0_3, .int .u64 a0_4, .int .u64 a0_5, .int .i64 a0_6, .int .i64 a0_7, .int .i64 a0_8]] w fun e w' => ∃ v0_ : Value, e = .returned (.tuple #[v0_, .bool r2]) ∧ Kd.R (Kd.int .u8) 5 w' w.heap.size (fun _ => True) v0_ r1 ∧ Below w.heap.size w w' := by
  unfold entry_Put.f at h
  obtain ⟨m, hm, h⟩ := Option.bind_eq_some_iff.mp h
  cases m with
  | true => exact put_may_yes k a0_0 a0_1 a0_2 a0_3 a0_4 a0_5 a0_6 a0_7 a0_8 r1 r2 w hm h
  | false =>
    rw [if_neg (by decide)] at h
    simp only [Option.some.injEq, Prod.mk.injEq] at h
    obtain ⟨rfl, rfl⟩ := h
    refine (put_may_no a0_0 a0_1 a0_2 a0_3 a0_4 a0_5 a0_6 a0_7 a0_8 w hm).mono ?_
    rintro e w' ⟨rfl, hb⟩
    exact ⟨_, rfl, Kd.R_nil _ _ _ _ _, hb⟩
end Go.Proofs.Ytphfejboahcnhaa.P
