/- What LawSymAgree rests on, part 8: several texts put together. -/
import Derived.Test.YtdinphnljokigaaGreatS7
import Derived.Test.YtdinphnljokigaaGreatS3
set_option linter.unusedVariables false
set_option linter.unnecessarySimpa false
set_option linter.unusedSimpArgs false
set_option maxRecDepth 100000
section
namespace Go.Proofs.YtdinphnljokigaaGreat.P
open Go.RowKit Go.Lib Go.Proofs.YtdinphnljokigaaGreatW.PrintWords Go.Proofs.YtdinphnljokigaaGreatW.PrintLast Go.Proofs.YtdinphnljokigaaGreatW.PrintMore
theorem cut_toS (A : Option Addr) (n c i : Nat) (hm : i ≤ n) (hc : n ≤ c) : ∀ W : World, (Instr.slice 39 (.slice A n c) none (some (.int .i64 i)) none).run Tryz.prog W = .ok (.slice A i c) W := by
 obtain ⟨i0, hi, hzz⟩ := Option.map_eq_some_iff.1 infoZ
 exact cut_to 39 33 .i64 Tryz.underlying39 hi A n c i (by omega) (by omega) hc
theorem find_at (i : Nat) (d : Int) (l : List Ses) (A : Option Addr) (c : Nat) (W : World) (hr : Kd.C kS W A l.length l) (hi : i ≤ l.length) :
  Calls Tryz.prog 73 #[.slice A i c, .int .u64 d] W fun e w' => e = .returned (.int .i64 (findS (l.take i) d)) ∧ Below W.heap.size W w' := by
 have h := Kd.C_take hr hi
 have hl : (l.take i).length = i := by rw [List.length_take]; omega
 have h2 := find_any d (l.take i) A c W h
 rwa [hl] at h2
set_option maxHeartbeats 2000000 in
set_option maxRecDepth 100000 in
theorem mayL_any (l : List Ses) (A : Option Addr) (c : Nat) (W : World) (hr : Kd.C kS W A l.length l) (hc : l.length ≤ c) :
  Calls Tryz.prog 44 #[.slice A l.length c] W fun e w' => e = .returned (.bool (mayS l)) ∧ Below W.heap.size W w' := by
 have hml : l.length ≤ 9223372036854775807 := hr.2.1
 have HC := aq_ hr
 have HCA := aq_ hc
 have HB := aq_ (Below.refl W.heap.size W)
 clear hr hc
 go_enter Tryz.func44, Tryz.ntmps44
 go_wp2
 go_loopw [7] (fun v wr => ∃ i : Nat, i ≤ l.length ∧ v = .int .i64 i ∧ Aside0 (okTo l i) ∧ Aside0 (Below W.heap.size W wr)) (fun v _ => l.length - (intOf v).toNat)
 case atStart => exact ⟨0, by omega, rfl, ⟨okTo_zero l⟩, HB⟩
 case round =>
  clear HB
  obtain ⟨i, hi, rfl, HS, HB⟩ := hrel
  obtain ⟨wo, rfl⟩ : ∃ wo : World, wo = wr := ⟨_, rfl⟩
  by_cases hlt : i < l.length
  ·obtain ⟨x, hx⟩ : ∃ x, l[i]? = some x := ⟨_, List.getElem?_eq_getElem hlt⟩
   obtain ⟨ax, e0, hcx, _⟩ := at_S (Kd.C_below HC.out HB.out) i hlt x hx
   subst e0
   have HX := aq_ hcx
   have H1 := aq_ hx
   have HI := aq_ hi
   have hcut := cut_toS (some ax) l.length c i hi HCA.out
   clear hcx hx
   cases hm : mayB x with
   | false =>
    have HM := aq_ hm
    have HN := aq_ (show mayS l = false from decide_eq_false (okTo_not H1.out (fun h => by rw [HM.out] at h; exact absurd h.1 (by decide))))
    clear hm
    go_wp2_with (first
     | (with_reducible refine load_S (.tmp 10) rfl rfl (p := ax.add (i * 39)) rfl HX.out ?_)
     | (with_reducible refine store_S (.tmp 4) (.tmp 11) rfl rfl rfl rfl rfl rfl ?_; intro w1 hX hb_; have X1 := aq_ hX; have HB1 := aq_ (below_step HB.out hb_); clear hX hb_))
    have X1d := aq_ (blk_drew X1.out)
    have HB1d := aq_ (below_drew HB1.out)
    clear X1 HB1
    have X1 := X1d
    have HB1 := HB1d
    refine start_ (n := 12) (S := fun w' => w'.heap[wo.heap.size]? = some (.cells (sca x) 33 (0, 0)) ∧ w'.cell? ⟨wo.heap.size, 2, none⟩ = some (.int .u64 x.draw)) (ds := []) #[false, false, false, false, false, false, false, false, false, false, false, false] (by kernel_rfl) rfl rfl ⟨X1d.out, (cellsS X1d.out).2.2.1⟩ (fun hHeld => ?_)
    refine ta_ 0 (some 12) ?_ (bt_ 12 1) rfl rfl (Or.inl ⟨by rfl, ?_⟩) hHeld ?_ ?_ ?_
    rotate_left
    ·rintro w' ⟨s0, s1⟩
     rw [exec_loadS (.tmp 4) (by rfl) (by rfl) (cells_box s0)]
    rotate_left
    ·simp only [pt_]
     rfl
    refine gz_ 1 (some 13) (bt_ 12 3) Tryz.func72 #[.agg (sca x)] fun K hK => ?_
    with_reducible refine (may_any x _).mono ?_
    rintro e w_ ⟨he_, hb_⟩
    rw [HM.out] at he_
    subst he_
    refine ⟨_, rfl, ?_⟩
    have X1 := aq_ (blk_below X1.out hb_)
    have HB1 := aq_ (below_step HB1.out hb_)
    clear hb_
    refine hK.out _ _ ⟨X1.out, (cellsS X1.out).2.2.1⟩ (fun hHeld => ?_)
    clear hK K
    refine nz_ ?_
    refine pz_ 2 (some 14) (bt_ 12 7) ?_
    refine pz_ 3 (some 15) (bt_ 12 15) ?_
    refine oz_ 4 (some 16) (bt_ 12 31) ?_
    refine oz_ 5 (some 17) (bt_ 12 63) ?_
    refine oz_ 6 (some 18) (bt_ 12 127) ?_
    refine oz_ 7 (some 19) (bt_ 12 255) ?_
    refine oz_ 8 (some 20) (bt_ 12 511) ?_
    refine oz_ 9 (some 21) (bt_ 12 1023) ?_
    refine oz_ 10 (some 22) (bt_ 12 2047) ?_
    refine pz_ 11 (some 23) (bt_ 12 4095) ?_
    refine done_ (by kernel_rfl) ?_
    go_wp2
    go_ret
    exact ⟨by rw [HN.out]; rfl, HB1.out⟩
   | true =>
    have HM := aq_ hm
    clear hm
    by_cases hf : findS (l.take i) x.draw = -1
    ·have HN := aq_ ((okTo_succ H1.out).2 ⟨HS.out, HM.out, hf⟩)
     have hf2 : (findS (l.take i) x.draw == -1) = true := by simp [hf]
     obtain ⟨r, hr⟩ : ∃ r, r = findS (l.take i) x.draw := ⟨_, rfl⟩
     clear hr r
     have HF := aq_ hf
     clear hf hf2
     go_wp2_with (first
      | (with_reducible refine load_S (.tmp 10) rfl rfl (p := ax.add (i * 39)) rfl HX.out ?_)
      | (with_reducible refine store_S (.tmp 4) (.tmp 11) rfl rfl rfl rfl rfl rfl ?_; intro w1 hX hb_; have X1 := aq_ hX; have HB1 := aq_ (below_step HB.out hb_); clear hX hb_))
     have X1d := aq_ (blk_drew X1.out)
     have HB1d := aq_ (below_drew HB1.out)
     clear X1 HB1
     have X1 := X1d
     have HB1 := HB1d
     refine start_ (n := 12) (S := fun w' => w'.heap[wo.heap.size]? = some (.cells (sca x) 33 (0, 0)) ∧ w'.cell? ⟨wo.heap.size, 2, none⟩ = some (.int .u64 x.draw)) (ds := []) #[false, false, false, false, false, false, false, false, false, false, false, false] (by kernel_rfl) rfl rfl ⟨X1d.out, (cellsS X1d.out).2.2.1⟩ (fun hHeld => ?_)
     refine ta_ 0 (some 12) ?_ (bt_ 12 1) rfl rfl (Or.inl ⟨by rfl, ?_⟩) hHeld ?_ ?_ ?_
     rotate_left
     ·rintro w' ⟨s0, s1⟩
      rw [exec_loadS (.tmp 4) (by rfl) (by rfl) (cells_box s0)]
     rotate_left
     ·simp only [pt_]
      rfl
     refine gz_ 1 (some 13) (bt_ 12 3) Tryz.func72 #[.agg (sca x)] fun K hK => ?_
     with_reducible refine (may_any x _).mono ?_
     rintro e w_ ⟨he_, hb_⟩
     rw [HM.out] at he_
     subst he_
     refine ⟨_, rfl, ?_⟩
     have X1 := aq_ (blk_below X1.out hb_)
     have HB1 := aq_ (below_step HB1.out hb_)
     clear hb_
     refine hK.out _ _ ⟨X1.out, (cellsS X1.out).2.2.1⟩ (fun hHeld => ?_)
     clear hK K
     refine nz_ ?_
     refine pz_ 2 (some 14) (bt_ 12 7) ?_
     refine pz_ 3 (some 15) (bt_ 12 15) ?_
     refine pz_ 4 (some 16) (bt_ 12 31) ?_
     refine pz_ 5 (some 17) (bt_ 12 63) ?_
     refine pz_ 6 (some 18) (bt_ 12 127) ?_
     refine pz_ 7 (some 19) (bt_ 12 255) ?_
     refine tz_ 8 (some 20) (bt_ 12 511) hHeld ?_
     refine gz_ 9 (some 21) (bt_ 12 1023) Tryz.func73 #[.slice (some ax) i c, .int .u64 x.draw] fun K hK => ?_
     with_reducible refine (find_at i x.draw l (some ax) c _ (Kd.C_below HC.out HB1.out) HI.out).mono ?_
     rintro e w_ ⟨he_, hb_⟩
     rw [HF.out] at he_
     subst he_
     refine ⟨_, rfl, ?_⟩
     have X1 := aq_ (blk_below X1.out hb_)
     have HB1 := aq_ (below_step HB1.out hb_)
     clear hb_
     refine hK.out _ _ ⟨X1.out, (cellsS X1.out).2.2.1⟩ (fun hHeld => ?_)
     clear hK K
     refine nz_ ?_
     refine pz_ 10 (some 22) (bt_ 12 2047) ?_
     refine pz_ 11 (some 23) (bt_ 12 4095) ?_
     refine done_ (by kernel_rfl) ?_
     go_wp2
     go_roundw
     case rel => exact ⟨i + 1, by omega, by go_num, HN, HB1⟩
     case measure => simp [intOf]; omega
    ·have HN := aq_ (show mayS l = false from decide_eq_false (okTo_not H1.out (fun h => hf h.2)))
     obtain ⟨r, hr⟩ : ∃ r, findS (l.take i) x.draw = r := ⟨_, rfl⟩
     have HF := aq_ hr
     rw [hr] at hf
     have hf2 : (r == -1) = false := by simpa using hf
     clear hr hf
     go_wp2_with (first
      | (with_reducible refine load_S (.tmp 10) rfl rfl (p := ax.add (i * 39)) rfl HX.out ?_)
      | (with_reducible refine store_S (.tmp 4) (.tmp 11) rfl rfl rfl rfl rfl rfl ?_; intro w1 hX hb_; have X1 := aq_ hX; have HB1 := aq_ (below_step HB.out hb_); clear hX hb_))
     have X1d := aq_ (blk_drew X1.out)
     have HB1d := aq_ (below_drew HB1.out)
     clear X1 HB1
     have X1 := X1d
     have HB1 := HB1d
     refine start_ (n := 12) (S := fun w' => w'.heap[wo.heap.size]? = some (.cells (sca x) 33 (0, 0)) ∧ w'.cell? ⟨wo.heap.size, 2, none⟩ = some (.int .u64 x.draw)) (ds := []) #[false, false, false, false, false, false, false, false, false, false, false, false] (by kernel_rfl) rfl rfl ⟨X1d.out, (cellsS X1d.out).2.2.1⟩ (fun hHeld => ?_)
     refine ta_ 0 (some 12) ?_ (bt_ 12 1) rfl rfl (Or.inl ⟨by rfl, ?_⟩) hHeld ?_ ?_ ?_
     rotate_left
     ·rintro w' ⟨s0, s1⟩
      rw [exec_loadS (.tmp 4) (by rfl) (by rfl) (cells_box s0)]
     rotate_left
     ·simp only [pt_]
      rfl
     refine gz_ 1 (some 13) (bt_ 12 3) Tryz.func72 #[.agg (sca x)] fun K hK => ?_
     with_reducible refine (may_any x _).mono ?_
     rintro e w_ ⟨he_, hb_⟩
     rw [HM.out] at he_
     subst he_
     refine ⟨_, rfl, ?_⟩
     have X1 := aq_ (blk_below X1.out hb_)
     have HB1 := aq_ (below_step HB1.out hb_)
     clear hb_
     refine hK.out _ _ ⟨X1.out, (cellsS X1.out).2.2.1⟩ (fun hHeld => ?_)
     clear hK K
     refine nz_ ?_
     refine pz_ 2 (some 14) (bt_ 12 7) ?_
     refine pz_ 3 (some 15) (bt_ 12 15) ?_
     refine pz_ 4 (some 16) (bt_ 12 31) ?_
     refine pz_ 5 (some 17) (bt_ 12 63) ?_
     refine pz_ 6 (some 18) (bt_ 12 127) ?_
     refine pz_ 7 (some 19) (bt_ 12 255) ?_
     refine tz_ 8 (some 20) (bt_ 12 511) hHeld ?_
     refine gz_ 9 (some 21) (bt_ 12 1023) Tryz.func73 #[.slice (some ax) i c, .int .u64 x.draw] fun K hK => ?_
     with_reducible refine (find_at i x.draw l (some ax) c _ (Kd.C_below HC.out HB1.out) HI.out).mono ?_
     rintro e w_ ⟨he_, hb_⟩
     rw [HF.out] at he_
     subst he_
     refine ⟨_, rfl, ?_⟩
     have X1 := aq_ (blk_below X1.out hb_)
     have HB1 := aq_ (below_step HB1.out hb_)
     clear hb_
     refine hK.out _ _ ⟨X1.out, (cellsS X1.out).2.2.1⟩ (fun hHeld => ?_)
     clear hK K
     refine nz_ ?_
     refine pz_ 10 (some 22) (bt_ 12 2047) ?_
     refine pz_ 11 (some 23) (bt_ 12 4095) ?_
     refine done_ (by kernel_rfl) ?_
     go_wp2
     go_ret
     exact ⟨by rw [HN.out]; rfl, HB1.out⟩
  ·obtain rfl : i = l.length := by omega
   by_cases h4 : l.length ≤ 4
   ·have HM := aq_ (show mayS l = true from decide_eq_true ((okTo_all l).2 ⟨HS.out, h4⟩))
    go_wp2
    go_ret
    exact ⟨by rw [HM.out]; exact ret_bool (decide_eq_true (by omega)), HB.out⟩
   ·have HM := aq_ (show mayS l = false from decide_eq_false (fun h => h4 ((okTo_all l).1 h).2))
    go_wp2
    go_ret
    exact ⟨by rw [HM.out]; exact ret_bool (decide_eq_false (by omega)), HB.out⟩
theorem zero_one (n : Nat) : ∀ u ∈ (Builtin.zeroCells (sca zses) n).toList, u.oneCell' = true := by
 intro u hu
 simp only [Builtin.zeroCells, Array.toList_map, List.mem_map, Array.toList_range, List.mem_range] at hu
 obtain ⟨i, _, rfl⟩ := hu
 have hs : (sca zses).size = 39 := sca_size _
 have hlt : i % (sca zses).size < (sca zses).size := Nat.mod_lt _ (by rw [hs]; decide)
 rw [getElem!_pos (sca zses) _ hlt]
 have hm : (sca zses)[i % (sca zses).size] ∈ (sca zses) := Array.getElem_mem hlt
 exact scl_one zses _ (Array.mem_def.1 hm)
theorem clear_run {W w0 : World} {base g n c k m c2 : Nat} {ty : TypeId} {xs : List Ses} {ok : Nat → Prop} (HO : kS.R 33 W base ok (.slice (some ⟨g, 0, none⟩) n c) xs) (hk : n ≤ k) (hm : k + m ≤ c) (HB : Below base w0 W) :
  ∃ w1, (Builtin.clear_ #[39] ty #[.slice (some ⟨g, k * 39, none⟩) m c2]).run Tryz.prog W = .ok (.tuple #[]) w1 ∧ kS.R 33 w1 base ok (.slice (some ⟨g, 0, none⟩) n c) xs ∧ Below base w0 w1 := by
 obtain ⟨h0, inner, ⟨hlen, hor⟩, hr⟩ := HO
 rcases hor with ⟨hv, _⟩ | ⟨g', cap, cur, hv, hbase, hheap, hn, hcap, hsize, htake⟩
 ·simp at hv
 ·injection hv with hv1 hv2 hv3
  injection hv1 with hv1
  injection hv1 with hv1 _ _
  subst hv1 hv2 hv3
  have hi := infoZ
  cases hq : Tryz.prog.info? 33 with
  | none => rw [hq] at hi; simp at hi
  | some i =>
   rw [hq] at hi
   simp only [Option.map_some, Option.some.injEq, Prod.mk.injEq] at hi
   obtain ⟨hz, hs, _⟩ := hi
   have hzl : (Builtin.zeroCells (sca zses) m).toList.length = m * 39 := by
    rw [Array.length_toList, size_zeroCells, sca_size]
   have hsz : kS.sz = 39 := rfl
   rw [hsz] at hsize htake hlen
   have hfit : k * 39 + m * 39 ≤ cur.size := by rw [hsize, ← Nat.add_mul]; exact Nat.mul_le_mul_right _ hm
   by_cases hm0 : m = 0
   ·subst hm0
    refine ⟨W, ?_, ⟨h0, inner, ⟨hlen, .inr ⟨g, c, cur, rfl, hbase, hheap, hn, hcap, hsize, htake⟩⟩, hr⟩, HB⟩
    simp [Builtin.clear_, run_underlying Tryz.underlying39]
   ·have hst := run_storeCells_at Tryz.prog g (k * 39) 33 (Builtin.zeroCells (sca zses) m).toList 0 cur W hheap (by rw [hzl]; exact hfit) (zero_one m)
    obtain ⟨nc, hnc⟩ : ∃ nc, nc = (cur.toList.take (k * 39 + 0) ++ (Builtin.zeroCells (sca zses) m).toList ++ cur.toList.drop (k * 39 + 0 + (Builtin.zeroCells (sca zses) m).toList.length)).toArray := ⟨_, rfl⟩
    rw [← hnc] at hst
    have hk39 : xs.length * 39 ≤ k * 39 := Nat.mul_le_mul_right _ hk
    have hcl : cur.toList.length = c * 39 := by rw [Array.length_toList, hsize]
    have z1 : nc.size = c * 39 := by
     rw [hnc, List.size_toArray, List.length_append, List.length_append, List.length_take, List.length_drop, hzl, Array.length_toList, hsize]
     rw [hsize] at hfit
     omega
    have z2 : nc.toList.take (xs.length * 39) = inner := by
     rw [hnc, ← htake, List.append_assoc, List.take_append_of_le_length (by rw [List.length_take, hcl]; rw [hsize] at hfit; omega), List.take_take, Nat.min_eq_left (by omega)]
    refine ⟨W.setRow g nc, ?_, ⟨h0, inner, ⟨hlen, .inr ⟨g, c, nc, rfl, hbase, setRow_heap _ _ _ _ _ _ hheap, hn, hcap, z1, z2⟩⟩, hr⟩, ⟨HB.os, HB.tape, HB.output, by rw [size_setRow]; exact HB.size, fun q hq2 => by rw [setRow_other _ _ _ _ (by omega)]; exact HB.block q hq2⟩⟩
    cases m with
    | zero => exact absurd rfl hm0
    | succ m => simp [Builtin.clear_, run_underlying Tryz.underlying39, zeroValue, typeInfo, hq, hz, Value.cells, hst]
section
variable {ops : Array Oper} {rest : List Oper} {o : Oper} {a : Act} {Q : Exit → Act → World → Prop}
theorem clear_S {W w0 : World} {base g n c k m c2 off : Nat} {xs : List Ses} {ok : Nat → Prop} (x : Operand) (ho : o.op = .call { callee := .builtin .clear, args := #[x], argTypes := #[39] }) (hgd : o.guard = none) (hN : o.dst = none)
  (hx : a.eval x = .slice (some ⟨g, off, none⟩) m c2) (hoff : off = k * 39) (HO : kS.R 33 W base ok (.slice (some ⟨g, 0, none⟩) n c) xs) (hk : n ≤ k) (hm : k + m ≤ c) (HB : Below base w0 W)
  (h : ∀ w1, kS.R 33 w1 base ok (.slice (some ⟨g, 0, none⟩) n c) xs → Below base w0 w1 → wpList Tryz.prog ops Q rest a w1) : wpList Tryz.prog ops Q (o :: rest) a W := by
 subst hoff
 obtain ⟨w1, hr, h1, h2⟩ := clear_run (ty := o.type) (c2 := c2) HO hk hm HB
 refine wpList_plain hgd (fun K hK => ?_)
 unfold Oper.wp execOp
 simp only [ho, resolve, invoke, builtin, Sem.run_bind, Sem.run_pure, Result.andThen_ok, List.map_toArray, List.map_cons, List.map_nil, hx, hr]
 have h3 := hK _ _ (h w1 h1 h2)
 have e : a.put o.dst (.tuple #[]) = a := by rw [hN]; rfl
 show K (a.put o.dst (.tuple #[])) w1
 rw [e]
 exact h3
end
theorem cut_midS (A : Option Addr) (n c : Nat) (lo hi' : Nat) (h1 : lo ≤ hi') (h2 : hi' ≤ c) :
  ∀ W : World, (Instr.slice 39 (.slice A n c) (some (.int .i64 lo)) (some (.int .i64 hi')) none).run Tryz.prog W = .ok (.slice (if c = lo then A else A.map (·.add (lo * 39))) (hi' - lo) (c - lo)) W := by
 intro W
 obtain ⟨i0, hi0, hzz⟩ := Option.map_eq_some_iff.1 infoZ
 simp only [Prod.mk.injEq] at hzz
 obtain ⟨_, hz1, _⟩ := hzz
 have hel : Tryz.prog.elem 39 = 33 := by simp [Program.elem, Tryz.underlying39]
 have hu : Tryz.prog.underlying 39 = some (.slice (Tryz.prog.elem 39)) := by rw [hel]; exact Tryz.underlying39
 rw [run_slice_lh W 39 A n c hu .i64 .i64 lo hi' (by omega) (by omega) (by omega), hel]
 simp [sizeOf, typeInfo, hi0, hz1, sliced, Result.andThen]
theorem cut_3S (A : Option Addr) (n c : Nat) (lo hi' m : Nat) (h1 : lo ≤ hi') (h2 : hi' ≤ m) (h3 : m ≤ c) :
  ∀ W : World, (Instr.slice 39 (.slice A n c) (some (.int .i64 lo)) (some (.int .i64 hi')) (some (.int .i64 m))).run Tryz.prog W = .ok (.slice (if m = lo then A else A.map (·.add (lo * 39))) (hi' - lo) (m - lo)) W := by
 intro W
 obtain ⟨i0, hi0, hzz⟩ := Option.map_eq_some_iff.1 infoZ
 simp only [Prod.mk.injEq] at hzz
 obtain ⟨_, hz1, _⟩ := hzz
 have hel : Tryz.prog.elem 39 = 33 := by simp [Program.elem, Tryz.underlying39]
 have hu : Tryz.prog.underlying 39 = some (.slice (Tryz.prog.elem 39)) := by rw [hel]; exact Tryz.underlying39
 rw [run_slice_lhm W 39 A n c hu .i64 .i64 .i64 lo hi' m (by omega) (by omega) (by omega) (by omega), hel]
 simp [sizeOf, typeInfo, hi0, hz1, sliced, Result.andThen]
theorem cut_fromS (A : Option Addr) (n c lo : Nat) (h1 : lo ≤ n) :
  ∀ W : World, (Instr.slice 39 (.slice A n c) (some (.int .i64 lo)) none none).run Tryz.prog W = .ok (.slice (if c = lo then A else A.map (·.add (lo * 39))) (n - lo) (c - lo)) W := by
 obtain ⟨i0, hi0, hzz⟩ := Option.map_eq_some_iff.1 infoZ
 simp only [Prod.mk.injEq] at hzz
 obtain ⟨_, hz1, _⟩ := hzz
 exact cut_from 39 33 .i64 Tryz.underlying39 hi0 39 hz1 A n c lo (by omega) (by omega)
set_option maxHeartbeats 2000000 in
set_option maxRecDepth 100000 in
theorem delete_any (i : Nat) (l : List Ses) (g cap base : Nat) (W : World) (HO0 : kS.R 33 W base (fun _ => True) (.slice (some ⟨g, 0, none⟩) l.length cap) l) (hi : i < l.length) (hb : base ≤ W.heap.size) :
  Calls Tryz.prog 105 #[.slice (some ⟨g, 0, none⟩) l.length cap, .int .i64 i, .int .i64 ((i : Int) + 1)] W fun e w' => e = .returned (.slice (some ⟨g, 0, none⟩) (l.length - 1) cap) ∧ kS.R 33 w' base (fun _ => True) (.slice (some ⟨g, 0, none⟩) (l.length - 1) cap) (l.eraseIdx i) ∧ Below base W w' := by
 have hcap : l.length ≤ cap := (Kd.R_reads' HO0).2.1
 have hml : cap ≤ 9223372036854775807 := by
  obtain ⟨_, inner, ⟨_, hor⟩, _⟩ := HO0
  rcases hor with ⟨hv, _⟩ | ⟨g', cap', cur, hv, _, _, _, hcap', _⟩
  ·simp at hv
  ·injection hv with _ _ hv3
   subst hv3
   exact hcap'
 have HO := aq_ HO0
 have HI := aq_ hi
 have HBS := aq_ hb
 have HB := aq_ (Below.refl base W)
 have hnl : ¬ l.length = i := by omega
 have hne : ((i : Int) == (i : Int) + 1) = false := by
  have : ¬ ((i : Int) = (i : Int) + 1) := by omega
  simpa using this
 have hj : ((i + 1 : Nat) : Int) = (i : Int) + 1 := by omega
 have c1 := cut_toS (some ⟨g, 0, none⟩) l.length cap i (by omega) hcap
 have c2 := cut_fromS (some ⟨g, 0, none⟩) l.length cap (i + 1) hi
 have c3 := cut_midS (some ⟨g, 0, none⟩) (l.length - 1) cap (l.length - 1) l.length (by omega) hcap
 have c4 := cut_3S (some ⟨g, 0, none⟩) l.length cap i (i + 1) l.length (by omega) hi hcap
 rw [hj] at c2 c4
 obtain ⟨A2, hA2⟩ : ∃ A2, A2 = if cap = i + 1 then some ⟨g, 0, none⟩ else (some (⟨g, 0, none⟩ : Addr)).map (·.add ((i + 1) * 39)) := ⟨_, rfl⟩
 rw [← hA2] at c2
 have HA := aq_ (show A2 = if cap = i + 1 then some ⟨g, 0, none⟩ else (some (⟨g, 0, none⟩ : Addr)).map (·.add ((i + 1) * kS.sz)) from hA2)
 clear hA2
 rw [if_neg (by omega)] at c3
 clear hj HO0 hi hb
 have C2 := c2
 clear C2
 go_enter Tryz.func105, Tryz.ntmps105
 go_wp2
 have HOd := aq_ (Kd.R_drew HO.out)
 have HBd := aq_ (below_drew HB.out)
 refine start_ (n := 8) (S := fun w' => True) (ds := []) #[false, false, false, false, false, false, false, false] (by kernel_rfl) rfl rfl trivial (fun hHeld => ?_)
 refine pz_ 0 (some 20) (bt_ 8 1) ?_
 refine pz_ 1 (some 21) (bt_ 8 3) ?_
 refine pz_ 2 (some 22) (bt_ 8 7) ?_
 refine pz_ 3 (some 23) (bt_ 8 15) ?_
 refine pz_ 4 (some 24) (bt_ 8 31) ?_
 refine pz_ 5 (some 25) (bt_ 8 63) ?_
 refine one_ (i := 6) (N := some 26) (bt_ 8 127) rfl rfl (by kernel_rfl) (by decide) (fun K hK => ?_)
 refine Kd.R_delete_step kS (w0 := W) base (by rfl) (.tmp 22) (.tmp 25) 39 33 rfl Tryz.underlying39 infoS (g := g) (n := l.length) (c := cap) (k := i) (m := l.length - (i + 1)) (c2 := cap - (i + 1)) (xs := l) (ok := fun _ => True) rfl rfl HA.out rfl HOd.out HI.out HBd.out HBS.out ?_
 intro w1 ho hb hg
 have HO1 := aq_ ho
 have HB1 := aq_ hb
 clear ho hb hg
 refine hK.out _ _ trivial (fun hHeld => ?_)
 clear hK K
 refine norm_ (a' := ?_) ?_ ?_
 rotate_left
 ·show Act.put _ (some 26) _ = _
  simp only [pt_]
  rfl
 refine pz_ 7 (some 0) (bt_ 8 255) ?_
 refine done_ (by kernel_rfl) ?_
 have HL := aq_ (show (l.eraseIdx i).length = l.length - 1 from List.length_eraseIdx_of_lt HI.out)
 go_wp2_with (with_reducible refine clear_S (.tmp 31) rfl rfl rfl (k := l.length - 1) rfl rfl HO1.out (Nat.le_refl _) (by have := HI.out; omega) HB1.out ?_; intro w2 ho hb_; have HO2 := aq_ ho; have HB2 := aq_ hb_; clear ho hb_)
 go_ret
 exact ⟨rfl, HO2.out, HB2.out⟩
def ToldO (base : Nat) (w' : World) (v : Value) (r : List Ses) : Prop := ∃ b, base ≤ b ∧ ∃ ok : Nat → Prop, kS.R 33 w' b ok v r
theorem told_O {w' : World} {b : Nat} {ok : Nat → Prop} {v : Value} {r : List Ses} (h : kS.R 33 w' b ok v r) {base : Nat} (hb : base ≤ b := by first | exact Nat.le_refl _ | omega | assumption) : ToldO base w' v r := ⟨b, hb, ok, h⟩
def dropS (l : List Ses) (d : Int) : List Ses := if findS l d = -1 then l else l.eraseIdx (findS l d).toNat
set_option maxHeartbeats 1000000 in
set_option maxRecDepth 100000 in
theorem drop_any (d : Int) (l : List Ses) (A : Option Addr) (c : Nat) (w : World) (hr : kS.C w A l.length l) (hl : l.length < 1000000) :
  Calls Tryz.prog 88 #[.slice A l.length c, .int .u64 d] w fun e w' => ∃ v : Value, e = .returned (.tuple #[v, .bool (!decide (findS l d = -1))]) ∧ ToldO w.heap.size w' v (dropS l d) ∧ Below w.heap.size w w' := by
 have HR := aq_ hr
 have HL := aq_ hl
 have hge := findS_ge l d
 obtain ⟨r, hr0⟩ : ∃ r, findS l d = r := ⟨_, rfl⟩
 have HF := aq_ hr0
 unfold dropS
 rw [hr0]
 rw [hr0] at hge
 clear hr hl hr0
 by_cases hn : r = -1
 ·subst hn
  rw [if_pos rfl]
  clear hge
  go_enter Tryz.func88, Tryz.ntmps88
  go_wp2_with (first
   | (go_at_call 52; (with_reducible refine (clone_any l A c _ HR.out HL.out).mono ?_); rintro e w1 ⟨v, rfl, ho, hb⟩; have HO := aq_ ho; have HB := aq_ hb; clear ho hb)
   | (go_at_call 73; (with_reducible refine (find_any d l A c _ (Kd.C_below HR.out HB.out)).mono ?_); rintro e w1 ⟨he_, hb⟩; rw [HF.out] at he_; subst he_; have HB1 := aq_ (below_step HB.out hb); have HO1 := aq_ (Kd.R_below HO.out hb); clear hb))
  go_ret2
  exact ⟨_, rfl, told_O HO1.out, HB1.out⟩
 ·obtain ⟨i, rfl⟩ : ∃ i : Nat, r = i := ⟨r.toNat, by omega⟩
  rw [if_neg hn, Int.toNat_natCast]
  have hi : i < l.length := by omega
  have HI := aq_ hi
  have hf : ((i : Int) == -1) = false := by simp
  have hi2 : (i : Int) ≤ 1000000 := by have := HL.out; omega
  have HNE := aq_ (show (!decide ((i : Int) = -1)) = true by simp)
  clear hge hn hi
  go_enter Tryz.func88, Tryz.ntmps88
  go_wp2_with (first
   | (go_at_call 52; (with_reducible refine (clone_any l A c _ HR.out HL.out).mono ?_); rintro e w1 ⟨v, rfl, ho, hb⟩; obtain ⟨g, cap, rfl, _, _, _⟩ := Kd.R_form ho (Nat.lt_of_le_of_lt (Nat.zero_le _) HI.out); have HO := aq_ ho; have HB := aq_ hb; clear ho hb)
   | (go_at_call 73; (with_reducible refine (find_any d l A c _ (Kd.C_below HR.out HB.out)).mono ?_); rintro e w1 ⟨he_, hb⟩; rw [HF.out] at he_; subst he_; have HB1 := aq_ (below_step HB.out hb); have HO1 := aq_ (Kd.R_below HO.out hb); clear hb)
   | (go_at_call 105; (with_reducible refine (delete_any i l g cap w.heap.size _ HO1.out HI.out HB1.out.size).mono ?_); rintro e w2 ⟨rfl, ho, hb⟩; have HO2 := aq_ ho; have HB2 := aq_ (HB1.out.trans hb); clear ho hb))
  go_ret2
  exact ⟨_, by rw [HNE.out]; rfl, told_O HO2.out, HB2.out⟩
section
variable {ops : Array Oper} {rest : List Oper} {o : Oper} {a : Act} {w : World} {Q : Exit → Act → World → Prop}
theorem gate_load (t : TypeId) (x : Operand) (_ho : o.op = .load t x) (h : wpList Tryz.prog ops Q (o :: rest) a w) : wpList Tryz.prog ops Q (o :: rest) a w := h
theorem load_Sw (x : Operand) (ho : o.op = .load 33 x) (hw : Region.wanted o (yielded ops a.tmps) = true) {p : Addr} (hx : a.eval x = .pointer (some p)) {s : Ses} (hc : ∀ j v, (scl s)[j]? = some v → w.cell? (p.add j) = some v)
  (h : wpList Tryz.prog ops Q rest (a.put o.dst (.agg (sca s))) w) : wpList Tryz.prog ops Q (o :: rest) a w :=
 gate_guard hw (load_S (o := { o with guard := none }) x ho rfl hx hc h)
end
def oldS (p : Ses → Bool) (l : List Ses) (d idle now : Int) : Int × List Ses × Int :=
 if mayS l = false ∨ timesB idle now = false then (-1, l, 1)
 else match l[(findS l d).toNat]? with
  | none => (-1, l, 5)
  | some x => if findS l d = -1 ∨ p x = false then (-1, l, 5) else if lateB x idle now = true then (-1, l.eraseIdx (findS l d).toNat, 9) else (findS l d, l, 0)
theorem all_S {w : World} {A : Option Addr} {l : List Ses} (h : kS.C w A l.length l) {i : Nat} (hi : i < l.length) {x : Ses} (hx : l[i]? = some x) :
  ∃ ad, A = some ad ∧ ∀ w1, Below w.heap.size w w1 → ∀ j v, (scl x)[j]? = some v → w1.cell? ((ad.add (i * 39)).add j) = some v := by
 obtain ⟨ad, e, _⟩ := at_S h i hi x hx
 refine ⟨ad, e, fun w1 hb => ?_⟩
 obtain ⟨ad', e', hc, _⟩ := at_S (Kd.C_below h hb) i hi x hx
 rw [e] at e'
 cases e'
 exact hc
set_option maxHeartbeats 2000000 in
set_option maxRecDepth 100000 in
theorem old_use (d idle now : Int) (l : List Ses) (A : Option Addr) (c : Nat) (w : World) (hr : kS.C w A l.length l) (hc : l.length ≤ c) (hl : l.length < 1000000) (r1 : Int) (r2 : List Ses) (r3 : Int) (h : oldS (fun x => x.isOpen) l d idle now = (r1, r2, r3)) :
  Calls Tryz.prog 102 #[.slice A l.length c, .int .u64 d, .int .i64 idle, .int .i64 now, .func (.func 104) #[] #[]] w fun e w' => ∃ v : Value, e = .returned (.tuple #[.int .i64 r1, v, .int .i64 r3]) ∧ kS.R 33 w' w.heap.size (fun _ => True) v r2 ∧ Below w.heap.size w w' := by
 have HR := aq_ hr
 have HC := aq_ hc
 have HL := aq_ hl
 clear hc hl
 unfold oldS at h
 cases hm : mayS l with
 | false =>
  rw [if_pos (.inl hm)] at h
  cases h
  have HM := aq_ hm
  clear hm hr
  go_enter Tryz.func102, Tryz.ntmps102
  go_wp2_with (first
   | (go_at_call 52; (with_reducible refine (clone_any l A c _ HR.out HL.out).mono ?_); rintro e w1 ⟨v, rfl, ho, hb⟩; have HO := aq_ ho; have HB := aq_ hb; clear ho hb)
   | (go_at_call 44; (with_reducible refine (mayL_any l A c _ (Kd.C_below HR.out HB.out) HC.out).mono ?_); rintro e w1 ⟨he_, hb⟩; rw [HM.out] at he_; subst he_; have HO := aq_ (Kd.R_below HO.out hb); have HB := aq_ (below_step HB.out hb); clear hb))
  go_ret3
  exact ⟨_, rfl, HO.out, HB.out⟩
 | true =>
 have HM := aq_ hm
 cases ht : timesB idle now with
 | false =>
  rw [if_pos (.inr ht)] at h
  cases h
  have HT := aq_ ht
  clear hm ht hr
  go_enter Tryz.func102, Tryz.ntmps102
  go_wp2_with (first
   | (go_at_call 52; (with_reducible refine (clone_any l A c _ HR.out HL.out).mono ?_); rintro e w1 ⟨v, rfl, ho, hb⟩; have HO := aq_ ho; have HB := aq_ hb; clear ho hb)
   | (go_at_call 44; (with_reducible refine (mayL_any l A c _ (Kd.C_below HR.out HB.out) HC.out).mono ?_); rintro e w1 ⟨he_, hb⟩; rw [HM.out] at he_; subst he_; have HO := aq_ (Kd.R_below HO.out hb); have HB := aq_ (below_step HB.out hb); clear hb)
   | (go_at_call 98; (with_reducible refine (times_any idle now _).mono ?_); rintro e w1 ⟨he_, rfl⟩; rw [HT.out] at he_; subst he_))
  go_ret3
  exact ⟨_, rfl, HO.out, HB.out⟩
 | true =>
 have HT := aq_ ht
 rw [if_neg (by rw [hm, ht]; simp)] at h
 clear hm ht
 have hge := findS_ge l d
 obtain ⟨r, hr0⟩ : ∃ r, findS l d = r := ⟨_, rfl⟩
 have HF := aq_ hr0
 rw [hr0] at h hge
 clear hr0
 by_cases hn : r = -1
 ·subst hn
  have h : ((-1 : Int), l, (5 : Int)) = (r1, r2, r3) := by
   split at h
   ·exact h
   ·rw [if_pos (.inl rfl)] at h
    exact h
  cases h
  clear hge hr
  go_enter Tryz.func102, Tryz.ntmps102
  go_wp2_with (first
   | (go_at_call 52; (with_reducible refine (clone_any l A c _ HR.out HL.out).mono ?_); rintro e w1 ⟨v, rfl, ho, hb⟩; have HO := aq_ ho; have HB := aq_ hb; clear ho hb)
   | (go_at_call 44; (with_reducible refine (mayL_any l A c _ (Kd.C_below HR.out HB.out) HC.out).mono ?_); rintro e w1 ⟨he_, hb⟩; rw [HM.out] at he_; subst he_; have HO := aq_ (Kd.R_below HO.out hb); have HB := aq_ (below_step HB.out hb); clear hb)
   | (go_at_call 98; (with_reducible refine (times_any idle now _).mono ?_); rintro e w1 ⟨he_, rfl⟩; rw [HT.out] at he_; subst he_)
   | (go_at_call 73; (with_reducible refine (find_any d l A c _ (Kd.C_below HR.out HB.out)).mono ?_); rintro e w1 ⟨he_, hb⟩; rw [HF.out] at he_; subst he_; have HO := aq_ (Kd.R_below HO.out hb); have HB := aq_ (below_step HB.out hb); clear hb))
  go_ret3
  exact ⟨_, rfl, HO.out, HB.out⟩
 obtain ⟨i, rfl⟩ : ∃ i : Nat, r = i := ⟨r.toNat, by omega⟩
 have hi : i < l.length := by omega
 obtain ⟨x, hx⟩ : ∃ x, l[i]? = some x := ⟨_, List.getElem?_eq_getElem hi⟩
 rw [Int.toNat_natCast, hx] at h
 simp only [] at h
 obtain ⟨ad, e0, hall⟩ := all_S hr hi hx
 subst e0
 have HX := aq_ hall
 have HI := aq_ hi
 have hf : ((i : Int) == -1) = false := by simp
 have hi2 : (i : Int) ≤ 1000000 := by have := HL.out; omega
 cases hp : (fun x => x.isOpen : Ses → Bool) x with
 | false =>
  rw [if_pos (.inr hp)] at h
  cases h
  have HP := aq_ hp
  clear hge hn hr hall hp hx
  go_enter Tryz.func102, Tryz.ntmps102
  go_wp2_with (first
   | (go_at_call 52; (with_reducible refine (clone_any l (some ad) c _ HR.out HL.out).mono ?_); rintro e w1 ⟨v, rfl, ho, hb⟩; have HO := aq_ ho; have HB := aq_ hb; clear ho hb)
   | (go_at_call 44; (with_reducible refine (mayL_any l (some ad) c _ (Kd.C_below HR.out HB.out) HC.out).mono ?_); rintro e w1 ⟨he_, hb⟩; rw [HM.out] at he_; subst he_; have HO := aq_ (Kd.R_below HO.out hb); have HB := aq_ (below_step HB.out hb); clear hb)
   | (go_at_call 98; (with_reducible refine (times_any idle now _).mono ?_); rintro e w1 ⟨he_, rfl⟩; rw [HT.out] at he_; subst he_)
   | (go_at_call 73; (with_reducible refine (find_any d l (some ad) c _ (Kd.C_below HR.out HB.out)).mono ?_); rintro e w1 ⟨he_, hb⟩; rw [HF.out] at he_; subst he_; have HO := aq_ (Kd.R_below HO.out hb); have HB := aq_ (below_step HB.out hb); clear hb)
   | ((with_reducible refine gate_load 33 (.tmp 36) rfl ?_); refine load_Sw (.tmp 36) rfl (by rfl) (p := ad.add (i * 39)) rfl (HX.out _ HB.out) ?_)
   | (go_at_call 104; (with_reducible refine (use1_any x _).mono ?_); rintro e w1 ⟨he_, hb⟩; (try rw [HP.out] at he_); subst he_; have HO := aq_ (Kd.R_below HO.out hb); have HB := aq_ (below_step HB.out hb); clear hb))
  go_ret3
  exact ⟨_, rfl, HO.out, HB.out⟩
 | true =>
 have HP := aq_ hp
 rw [if_neg (fun h2 => h2.elim hn (fun h2 => absurd (h2.symm.trans hp) (by decide)))] at h
 cases hla : lateB x idle now with
 | true =>
  rw [if_pos hla] at h
  cases h
  have HLA := aq_ hla
  clear hge hn hr hall hp hla hx
  go_enter Tryz.func102, Tryz.ntmps102
  go_wp2_with (first
   | (go_at_call 52; (with_reducible refine (clone_any l (some ad) c _ HR.out HL.out).mono ?_); rintro e w1 ⟨v, rfl, ho, hb⟩; obtain ⟨g, cap, rfl, _, _, _⟩ := Kd.R_form ho (Nat.lt_of_le_of_lt (Nat.zero_le _) HI.out); have HO := aq_ ho; have HB := aq_ hb; clear ho hb)
   | (go_at_call 44; (with_reducible refine (mayL_any l (some ad) c _ (Kd.C_below HR.out HB.out) HC.out).mono ?_); rintro e w1 ⟨he_, hb⟩; rw [HM.out] at he_; subst he_; have HO := aq_ (Kd.R_below HO.out hb); have HB := aq_ (below_step HB.out hb); clear hb)
   | (go_at_call 98; (with_reducible refine (times_any idle now _).mono ?_); rintro e w1 ⟨he_, rfl⟩; rw [HT.out] at he_; subst he_)
   | (go_at_call 73; (with_reducible refine (find_any d l (some ad) c _ (Kd.C_below HR.out HB.out)).mono ?_); rintro e w1 ⟨he_, hb⟩; rw [HF.out] at he_; subst he_; have HO := aq_ (Kd.R_below HO.out hb); have HB := aq_ (below_step HB.out hb); clear hb)
   | ((with_reducible refine gate_load 33 (.tmp 36) rfl ?_); refine load_Sw (.tmp 36) rfl (by rfl) (p := ad.add (i * 39)) rfl (HX.out _ HB.out) ?_)
   | (go_at_call 104; (with_reducible refine (use1_any x _).mono ?_); rintro e w1 ⟨he_, hb⟩; (try rw [HP.out] at he_); subst he_; have HO := aq_ (Kd.R_below HO.out hb); have HB := aq_ (below_step HB.out hb); clear hb)
   | (with_reducible refine load_S (.tmp 44) rfl rfl (p := ad.add (i * 39)) rfl (HX.out _ HB.out) ?_)
   | (go_at_call 101; (with_reducible refine (late_any x idle now _).mono ?_); rintro e w1 ⟨he_, hb⟩; rw [HLA.out] at he_; subst he_; have HO := aq_ (Kd.R_below HO.out hb); have HB := aq_ (below_step HB.out hb); clear hb)
   | (go_at_call 105; (with_reducible refine (delete_any i l g cap w.heap.size _ HO.out HI.out HB.out.size).mono ?_); rintro e w2 ⟨rfl, ho, hb⟩; have HO2 := aq_ ho; have HB2 := aq_ (HB.out.trans hb); clear ho hb))
  go_ret3
  exact ⟨_, rfl, HO2.out, HB2.out⟩
 | false =>
  rw [if_neg (by rw [hla]; decide)] at h
  cases h
  have HLA := aq_ hla
  clear hge hn hr hall hp hla hx
  go_enter Tryz.func102, Tryz.ntmps102
  go_wp2_with (first
   | (go_at_call 52; (with_reducible refine (clone_any l (some ad) c _ HR.out HL.out).mono ?_); rintro e w1 ⟨v, rfl, ho, hb⟩; have HO := aq_ ho; have HB := aq_ hb; clear ho hb)
   | (go_at_call 44; (with_reducible refine (mayL_any l (some ad) c _ (Kd.C_below HR.out HB.out) HC.out).mono ?_); rintro e w1 ⟨he_, hb⟩; rw [HM.out] at he_; subst he_; have HO := aq_ (Kd.R_below HO.out hb); have HB := aq_ (below_step HB.out hb); clear hb)
   | (go_at_call 98; (with_reducible refine (times_any idle now _).mono ?_); rintro e w1 ⟨he_, rfl⟩; rw [HT.out] at he_; subst he_)
   | (go_at_call 73; (with_reducible refine (find_any d l (some ad) c _ (Kd.C_below HR.out HB.out)).mono ?_); rintro e w1 ⟨he_, hb⟩; rw [HF.out] at he_; subst he_; have HO := aq_ (Kd.R_below HO.out hb); have HB := aq_ (below_step HB.out hb); clear hb)
   | ((with_reducible refine gate_load 33 (.tmp 36) rfl ?_); refine load_Sw (.tmp 36) rfl (by rfl) (p := ad.add (i * 39)) rfl (HX.out _ HB.out) ?_)
   | (go_at_call 104; (with_reducible refine (use1_any x _).mono ?_); rintro e w1 ⟨he_, hb⟩; (try rw [HP.out] at he_); subst he_; have HO := aq_ (Kd.R_below HO.out hb); have HB := aq_ (below_step HB.out hb); clear hb)
   | (with_reducible refine load_S (.tmp 44) rfl rfl (p := ad.add (i * 39)) rfl (HX.out _ HB.out) ?_)
   | (go_at_call 101; (with_reducible refine (late_any x idle now _).mono ?_); rintro e w1 ⟨he_, hb⟩; rw [HLA.out] at he_; subst he_; have HO := aq_ (Kd.R_below HO.out hb); have HB := aq_ (below_step HB.out hb); clear hb))
  go_ret3
  exact ⟨_, rfl, HO.out, HB.out⟩
set_option maxHeartbeats 2000000 in
set_option maxRecDepth 100000 in
theorem old_prove (d idle now : Int) (l : List Ses) (A : Option Addr) (c : Nat) (w : World) (hr : kS.C w A l.length l) (hc : l.length ≤ c) (hl : l.length < 1000000) (r1 : Int) (r2 : List Ses) (r3 : Int) (h : oldS (fun _ => true) l d idle now = (r1, r2, r3)) :
  Calls Tryz.prog 102 #[.slice A l.length c, .int .u64 d, .int .i64 idle, .int .i64 now, .func (.func 103) #[] #[]] w fun e w' => ∃ v : Value, e = .returned (.tuple #[.int .i64 r1, v, .int .i64 r3]) ∧ kS.R 33 w' w.heap.size (fun _ => True) v r2 ∧ Below w.heap.size w w' := by
 have HR := aq_ hr
 have HC := aq_ hc
 have HL := aq_ hl
 clear hc hl
 unfold oldS at h
 cases hm : mayS l with
 | false =>
  rw [if_pos (.inl hm)] at h
  cases h
  have HM := aq_ hm
  clear hm hr
  go_enter Tryz.func102, Tryz.ntmps102
  go_wp2_with (first
   | (go_at_call 52; (with_reducible refine (clone_any l A c _ HR.out HL.out).mono ?_); rintro e w1 ⟨v, rfl, ho, hb⟩; have HO := aq_ ho; have HB := aq_ hb; clear ho hb)
   | (go_at_call 44; (with_reducible refine (mayL_any l A c _ (Kd.C_below HR.out HB.out) HC.out).mono ?_); rintro e w1 ⟨he_, hb⟩; rw [HM.out] at he_; subst he_; have HO := aq_ (Kd.R_below HO.out hb); have HB := aq_ (below_step HB.out hb); clear hb))
  go_ret3
  exact ⟨_, rfl, HO.out, HB.out⟩
 | true =>
 have HM := aq_ hm
 cases ht : timesB idle now with
 | false =>
  rw [if_pos (.inr ht)] at h
  cases h
  have HT := aq_ ht
  clear hm ht hr
  go_enter Tryz.func102, Tryz.ntmps102
  go_wp2_with (first
   | (go_at_call 52; (with_reducible refine (clone_any l A c _ HR.out HL.out).mono ?_); rintro e w1 ⟨v, rfl, ho, hb⟩; have HO := aq_ ho; have HB := aq_ hb; clear ho hb)
   | (go_at_call 44; (with_reducible refine (mayL_any l A c _ (Kd.C_below HR.out HB.out) HC.out).mono ?_); rintro e w1 ⟨he_, hb⟩; rw [HM.out] at he_; subst he_; have HO := aq_ (Kd.R_below HO.out hb); have HB := aq_ (below_step HB.out hb); clear hb)
   | (go_at_call 98; (with_reducible refine (times_any idle now _).mono ?_); rintro e w1 ⟨he_, rfl⟩; rw [HT.out] at he_; subst he_))
  go_ret3
  exact ⟨_, rfl, HO.out, HB.out⟩
 | true =>
 have HT := aq_ ht
 rw [if_neg (by rw [hm, ht]; simp)] at h
 clear hm ht
 have hge := findS_ge l d
 obtain ⟨r, hr0⟩ : ∃ r, findS l d = r := ⟨_, rfl⟩
 have HF := aq_ hr0
 rw [hr0] at h hge
 clear hr0
 by_cases hn : r = -1
 ·subst hn
  have h : ((-1 : Int), l, (5 : Int)) = (r1, r2, r3) := by
   split at h
   ·exact h
   ·rw [if_pos (.inl rfl)] at h
    exact h
  cases h
  clear hge hr
  go_enter Tryz.func102, Tryz.ntmps102
  go_wp2_with (first
   | (go_at_call 52; (with_reducible refine (clone_any l A c _ HR.out HL.out).mono ?_); rintro e w1 ⟨v, rfl, ho, hb⟩; have HO := aq_ ho; have HB := aq_ hb; clear ho hb)
   | (go_at_call 44; (with_reducible refine (mayL_any l A c _ (Kd.C_below HR.out HB.out) HC.out).mono ?_); rintro e w1 ⟨he_, hb⟩; rw [HM.out] at he_; subst he_; have HO := aq_ (Kd.R_below HO.out hb); have HB := aq_ (below_step HB.out hb); clear hb)
   | (go_at_call 98; (with_reducible refine (times_any idle now _).mono ?_); rintro e w1 ⟨he_, rfl⟩; rw [HT.out] at he_; subst he_)
   | (go_at_call 73; (with_reducible refine (find_any d l A c _ (Kd.C_below HR.out HB.out)).mono ?_); rintro e w1 ⟨he_, hb⟩; rw [HF.out] at he_; subst he_; have HO := aq_ (Kd.R_below HO.out hb); have HB := aq_ (below_step HB.out hb); clear hb))
  go_ret3
  exact ⟨_, rfl, HO.out, HB.out⟩
 obtain ⟨i, rfl⟩ : ∃ i : Nat, r = i := ⟨r.toNat, by omega⟩
 have hi : i < l.length := by omega
 obtain ⟨x, hx⟩ : ∃ x, l[i]? = some x := ⟨_, List.getElem?_eq_getElem hi⟩
 rw [Int.toNat_natCast, hx] at h
 simp only [] at h
 obtain ⟨ad, e0, hall⟩ := all_S hr hi hx
 subst e0
 have HX := aq_ hall
 have HI := aq_ hi
 have hf : ((i : Int) == -1) = false := by simp
 have hi2 : (i : Int) ≤ 1000000 := by have := HL.out; omega
 cases hp : (fun _ => true : Ses → Bool) x with
 | false => exact absurd hp (by simp)
 | true =>
 have HP := aq_ hp
 rw [if_neg (fun h2 => h2.elim hn (fun h2 => absurd (h2.symm.trans hp) (by decide)))] at h
 cases hla : lateB x idle now with
 | true =>
  rw [if_pos hla] at h
  cases h
  have HLA := aq_ hla
  clear hge hn hr hall hp hla hx
  go_enter Tryz.func102, Tryz.ntmps102
  go_wp2_with (first
   | (go_at_call 52; (with_reducible refine (clone_any l (some ad) c _ HR.out HL.out).mono ?_); rintro e w1 ⟨v, rfl, ho, hb⟩; obtain ⟨g, cap, rfl, _, _, _⟩ := Kd.R_form ho (Nat.lt_of_le_of_lt (Nat.zero_le _) HI.out); have HO := aq_ ho; have HB := aq_ hb; clear ho hb)
   | (go_at_call 44; (with_reducible refine (mayL_any l (some ad) c _ (Kd.C_below HR.out HB.out) HC.out).mono ?_); rintro e w1 ⟨he_, hb⟩; rw [HM.out] at he_; subst he_; have HO := aq_ (Kd.R_below HO.out hb); have HB := aq_ (below_step HB.out hb); clear hb)
   | (go_at_call 98; (with_reducible refine (times_any idle now _).mono ?_); rintro e w1 ⟨he_, rfl⟩; rw [HT.out] at he_; subst he_)
   | (go_at_call 73; (with_reducible refine (find_any d l (some ad) c _ (Kd.C_below HR.out HB.out)).mono ?_); rintro e w1 ⟨he_, hb⟩; rw [HF.out] at he_; subst he_; have HO := aq_ (Kd.R_below HO.out hb); have HB := aq_ (below_step HB.out hb); clear hb)
   | ((with_reducible refine gate_load 33 (.tmp 36) rfl ?_); refine load_Sw (.tmp 36) rfl (by rfl) (p := ad.add (i * 39)) rfl (HX.out _ HB.out) ?_)
   | (go_at_call 103; (with_reducible refine (prove1_any x _).mono ?_); rintro e w1 ⟨he_, hb⟩; (try rw [HP.out] at he_); subst he_; have HO := aq_ (Kd.R_below HO.out hb); have HB := aq_ (below_step HB.out hb); clear hb)
   | (with_reducible refine load_S (.tmp 44) rfl rfl (p := ad.add (i * 39)) rfl (HX.out _ HB.out) ?_)
   | (go_at_call 101; (with_reducible refine (late_any x idle now _).mono ?_); rintro e w1 ⟨he_, hb⟩; rw [HLA.out] at he_; subst he_; have HO := aq_ (Kd.R_below HO.out hb); have HB := aq_ (below_step HB.out hb); clear hb)
   | (go_at_call 105; (with_reducible refine (delete_any i l g cap w.heap.size _ HO.out HI.out HB.out.size).mono ?_); rintro e w2 ⟨rfl, ho, hb⟩; have HO2 := aq_ ho; have HB2 := aq_ (HB.out.trans hb); clear ho hb))
  go_ret3
  exact ⟨_, rfl, HO2.out, HB2.out⟩
 | false =>
  rw [if_neg (by rw [hla]; decide)] at h
  cases h
  have HLA := aq_ hla
  clear hge hn hr hall hp hla hx
  go_enter Tryz.func102, Tryz.ntmps102
  go_wp2_with (first
   | (go_at_call 52; (with_reducible refine (clone_any l (some ad) c _ HR.out HL.out).mono ?_); rintro e w1 ⟨v, rfl, ho, hb⟩; have HO := aq_ ho; have HB := aq_ hb; clear ho hb)
   | (go_at_call 44; (with_reducible refine (mayL_any l (some ad) c _ (Kd.C_below HR.out HB.out) HC.out).mono ?_); rintro e w1 ⟨he_, hb⟩; rw [HM.out] at he_; subst he_; have HO := aq_ (Kd.R_below HO.out hb); have HB := aq_ (below_step HB.out hb); clear hb)
   | (go_at_call 98; (with_reducible refine (times_any idle now _).mono ?_); rintro e w1 ⟨he_, rfl⟩; rw [HT.out] at he_; subst he_)
   | (go_at_call 73; (with_reducible refine (find_any d l (some ad) c _ (Kd.C_below HR.out HB.out)).mono ?_); rintro e w1 ⟨he_, hb⟩; rw [HF.out] at he_; subst he_; have HO := aq_ (Kd.R_below HO.out hb); have HB := aq_ (below_step HB.out hb); clear hb)
   | ((with_reducible refine gate_load 33 (.tmp 36) rfl ?_); refine load_Sw (.tmp 36) rfl (by rfl) (p := ad.add (i * 39)) rfl (HX.out _ HB.out) ?_)
   | (go_at_call 103; (with_reducible refine (prove1_any x _).mono ?_); rintro e w1 ⟨he_, hb⟩; (try rw [HP.out] at he_); subst he_; have HO := aq_ (Kd.R_below HO.out hb); have HB := aq_ (below_step HB.out hb); clear hb)
   | (with_reducible refine load_S (.tmp 44) rfl rfl (p := ad.add (i * 39)) rfl (HX.out _ HB.out) ?_)
   | (go_at_call 101; (with_reducible refine (late_any x idle now _).mono ?_); rintro e w1 ⟨he_, hb⟩; rw [HLA.out] at he_; subst he_; have HO := aq_ (Kd.R_below HO.out hb); have HB := aq_ (below_step HB.out hb); clear hb))
  go_ret3
  exact ⟨_, rfl, HO.out, HB.out⟩
end Go.Proofs.YtdinphnljokigaaGreat.P
end
