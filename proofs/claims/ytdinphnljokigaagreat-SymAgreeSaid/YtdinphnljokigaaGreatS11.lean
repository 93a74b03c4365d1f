/- What LawSymAgree rests on, part 11: several texts put together. -/
import Derived.RangeFuncNested
import Derived.RangeFuncBound
import Derived.RangeFuncCalls
import Derived.RangeFuncLeaves
import Derived.RangeFuncBox
import Derived.Shelf.Abstract
import Derived.Shelf.RegionOpen
import Derived.RegionIn
import Derived.OwnWalkIn
import Derived.TacticsInMore
import Derived.LoopNIn
import Derived.LoopIn
import Derived.Test.YtdinphnljokigaaGreatS10
import Derived.Test.YtdinphnljokigaaGreatS6
import Derived.Scope
import Derived.WalkMore
import Derived.ScopeJumps
import Derived.Test.YtdinphnljokigaaGreatS3
set_option linter.unusedVariables false
set_option linter.unnecessarySimpa false
set_option linter.unusedSimpArgs false
set_option maxRecDepth 100000
section
namespace Go.Proofs.YtdinphnljokigaaGreat.P
open Go.RowKit Go.Shelf Go.Proofs.YtdinphnljokigaaGreatW.PrintWords Go.Proofs.YtdinphnljokigaaGreatW.PrintLast Go.Proofs.YtdinphnljokigaaGreatW.PrintMore
attribute [local go_sem] Oper.semAt_some
theorem rdi_get (l : List Int) {i : Nat} (h : i < l.length) : rd l (i : Int) = l[i] := by
 unfold rd
 rw [Int.toNat_natCast, List.getD_eq_getElem?_getD, List.getElem?_eq_getElem h]
 rfl
theorem rdi_take (l : List Int) {i : Nat} (h : i < l.length) : l.take (i + 1) = l.take i ++ [rd l (i : Int)] := by
 rw [List.take_succ_eq_append_getElem h, rdi_get l h]
theorem min_lt {l : List Int} {m y : Int} (h : m < 0 ↔ ∃ x ∈ l, x < 0) (hy : y < m) : y < 0 ↔ ∃ x ∈ l ++ [y], x < 0 := by
 constructor
 ·intro h0; exact ⟨y, by simp, h0⟩
 ·rintro ⟨z, hz, hz0⟩
  rcases List.mem_append.1 hz with hz | hz
  ·have := h.2 ⟨z, hz, hz0⟩; omega
  ·simp at hz; omega
theorem min_ge {l : List Int} {m y : Int} (h : m < 0 ↔ ∃ x ∈ l, x < 0) (hy : m ≤ y) : m < 0 ↔ ∃ x ∈ l ++ [y], x < 0 := by
 constructor
 ·intro h0; obtain ⟨z, hz, hz0⟩ := h.1 h0; exact ⟨z, by simp [hz], hz0⟩
 ·rintro ⟨z, hz, hz0⟩
  rcases List.mem_append.1 hz with hz | hz
  ·exact h.2 ⟨z, hz, hz0⟩
  ·simp at hz; omega
set_option maxHeartbeats 1000000 in
set_option maxRecDepth 100000 in
theorem min_calls (l : List Int) (hl : l ≠ []) (A : Option Addr) (c : Nat) (W : World) (HC : Aside0 (Kd.C (Kd.int .i64) W A l.length l)) :
  Calls Tryz.prog 91 #[.slice A l.length c] W fun e w' => (∃ m : Int, e = .returned (.int .i64 m) ∧ (m < 0 ↔ ∃ x ∈ l, x < 0)) ∧ w' = W := by
 have hp : 1 ≤ l.length := List.length_pos_iff.mpr hl
 have hm : l.length ≤ 9223372036854775807 := HC.out.2.1
 obtain ⟨ad, e, hx⟩ := Kd.at_int HC.out 0 (by omega) (by omega)
 subst e
 simp only [show (0 : Int).toNat = 0 from rfl] at hx
 rw [Addr.add_zero'] at hx
 have e1 : ¬ (l.length : Int) < 1 := by omega
 have e2 : (0 : Int) < (l.length : Int) := by omega
 have HT0 := aq_ (rdi_take l (show 0 < l.length by omega))
 clear hl
 go_enter Tryz.func91, Tryz.ntmps91
 go_wp2
 go_loopw [3, 4] (fun v3 v4 wr => ∃ (i : Nat) (m : Int), 1 ≤ i ∧ i ≤ l.length ∧ v4 = .int .i64 i ∧ v3 = .int .i64 m ∧ Aside0 (m < 0 ↔ ∃ x ∈ l.take i, x < 0) ∧ wr = W) (fun _ v4 _ => l.length - (intOf v4).toNat)
 case atStart => exact ⟨1, rd l 0, by omega, hp, rfl, rfl, ⟨by have := HT0.out; rw [Nat.zero_add, List.take_zero, List.nil_append] at this; rw [this]; simp⟩, rfl⟩
 case round =>
  obtain ⟨i, m, hi1, hi, rfl, rfl, HM, rfl⟩ := hrel
  by_cases hlt : i < l.length
  ·obtain ⟨ad2, e3, hy⟩ := Kd.at_int HC.out (i : Int) (by omega) (by omega)
   injection e3 with e3
   subst e3
   rw [Int.toNat_natCast] at hy
   have HT := aq_ (rdi_take l hlt)
   obtain ⟨y, hyy⟩ : ∃ y, y = rd l (i : Int) := ⟨_, rfl⟩
   rw [← hyy] at hy HT
   clear hyy
   by_cases hym : y < m
   ·go_wp2
    go_roundw
    case rel => exact ⟨i + 1, y, by omega, by omega, by go_num, by first | rfl | (simp [hym]; done), ⟨by rw [HT.out]; exact min_lt HM.out hym⟩, by first | exact rfl | exact trivial⟩
    case measure => simp [intOf]; omega
   ·have hmy : m ≤ y := by omega
    go_wp2
    go_roundw
    case rel => exact ⟨i + 1, m, by omega, by omega, by go_num, by first | rfl | (simp [hmy]; done), ⟨by rw [HT.out]; exact min_ge HM.out hmy⟩, by first | exact rfl | exact trivial⟩
    case measure => simp [intOf]; omega
  ·obtain rfl : i = l.length := by omega
   go_wp2
   go_ret
   refine ⟨⟨_, rfl, ?_⟩, rfl⟩
   have := HM.out
   rwa [List.take_length] at this
set_option maxHeartbeats 400000 in
theorem word_in (F : Fence) (n : Nat) (h27 : F.fn 92) (hro : F.round = none) (x : Int) (w : World) :
  CallsIn F n Tryz.prog 92 #[.int .i64 x] w fun e w' => e = .returned (.agg #[.int .i64 0, .int .i64 x, .slice none 0 0]) ∧ w' = w.alloc (.cells #[.int .i64 0, .int .i64 x, .slice none 0 0] 36 (0, 0)) := by
 refine callsIn_of_wp Tryz.func92 rfl h27 ?_ hro
 simp only [Tryz.ntmps92, List.size_toArray, List.length_cons, List.length_nil, Nat.reduceAdd, Nat.reduceSub, Array.replicate_succ, Array.replicate_zero, List.push_toArray, List.append_toArray, List.nil_append, List.cons_append]
 gi_wp2
 refine bodyPost_ret (results_cell_row rfl _ _ w.heap.size 36 #[.int .i64 0, .int .i64 x, .slice none 0 0] (0, 0) _ rfl (blk_new w _) Tryz.underlying36 rfl (by kernel_rfl)) rfl ⟨rfl, rfl⟩
set_option maxHeartbeats 400000 in
theorem bw_in (F : Fence) (n : Nat) (h28 : F.fn 93) (hro : F.round = none) (A : Option Addr) (m c : Nat) (w : World) :
  CallsIn F n Tryz.prog 93 #[.slice A m c] w fun e w' => e = .returned (.func (.func 111) #[] #[.pointer (some ⟨w.heap.size, 0, none⟩)]) ∧ w' = w.alloc (.cells #[.slice A m c] 50 (0, 0)) := by
 refine callsIn_of_wp Tryz.func93 rfl h28 ?_ hro
 simp only [Tryz.ntmps93, List.size_toArray, List.length_cons, List.length_nil, Nat.reduceAdd, Nat.reduceSub, Array.replicate_succ, Array.replicate_zero, List.push_toArray, List.append_toArray, List.nil_append, List.cons_append]
 gi_wp2
 go_ret
 exact ⟨rfl, rfl⟩
def bwUpto (l : List Int) (k : Nat) : List (Int × Int) := (List.range k).map fun j => (((l.length - 1 - j : Nat) : Int), l.getD (l.length - 1 - j) 0)
theorem bwUpto_succ (l : List Int) (k : Nat) : bwUpto l (k + 1) = bwUpto l k ++ [(((l.length - 1 - k : Nat) : Int), l.getD (l.length - 1 - k) 0)] := by simp [bwUpto, List.range_succ]
theorem bwUpto_length (l : List Int) (k : Nat) : (bwUpto l k).length = k := by simp [bwUpto]
def KpB (n₀ Bs : Nat) (W W' : World) : Prop := Below n₀ W W' ∧ W'.heap[Bs]? = W.heap[Bs]?
theorem kpB_t {n₀ Bs : Nat} {A B C : World} (h : KpB n₀ Bs A B) (k : KpB n₀ Bs B C) : KpB n₀ Bs A C := ⟨h.1.trans k.1, k.2.trans h.2⟩
theorem kpB_b {n₀ Bs : Nat} {w : World} (hn : n₀ ≤ w.heap.size) (hk : Bs < w.heap.size) (W : World) (l : Nat) (o o' : Obj) (hl : w.heap.size ≤ l) (h : W.heap[l]? = some o) (h1 : o.isCells = false) (h2 : o.isWalk = false) : KpB n₀ Bs W (W.putObj l o') :=
 ⟨belowK_b hn W l o o' hl h h1 h2, World.putObj_heap_other (by omega)⟩
set_option maxRecDepth 100000 in
set_option maxHeartbeats 2000000 in
theorem bw1_in (F : Fence) (n : Nat) (h38 : F.fn 111) (hro : F.round = none) (hn : 1 ≤ n) (lk Bs : Nat) (w0 : World) (A : Option Addr) (c : Nat) (l : List Int) (J Jx : List (Int × Int) → World → Prop)
  (hr0 : Kd.C (Kd.int .i64) w0 A l.length l) (W : World)
  (hY : ∀ pre x W1, J pre W1 → pre.length < l.length → YieldAt F (n - 1) Tryz.prog lk #[.int .i64 x.1, .int .i64 x.2] W1 fun e W' =>
   (e = .returned (.bool true) ∧ J (pre ++ [x]) W' ∧ KpB w0.heap.size Bs W1 W') ∨ (e = .returned (.bool false) ∧ Jx (pre ++ [x]) W'))
  (hB : Below w0.heap.size w0 W) (hBs : W.heap[Bs]? = some (.cells #[.slice A l.length c] 50 (0, 0))) (h0 : J [] W) :
  CallsIn F n Tryz.prog 111 #[.func (.yield lk) #[] #[], .pointer (some ⟨Bs, 0, none⟩)] W fun e W' => (∃ v, e = .returned v) ∧
   ((∃ ys, ys = bwUpto l l.length ∧ J ys W') ∨ (∃ pre, True ∧ Jx pre W')) := by
 refine callsIn_of_wp Tryz.func111 rfl h38 ?_ hro
 simp only [Tryz.ntmps111, List.size_toArray, List.length_cons, List.length_nil, Nat.reduceAdd, Nat.reduceSub, Array.replicate_succ, Array.replicate_zero, List.push_toArray, List.append_toArray, List.nil_append, List.cons_append]
 have hm : l.length ≤ 9223372036854775807 := hr0.2.1
 have cs0 : W.cell? ⟨Bs, 0, none⟩ = some (.slice A l.length c) := blk_cell hBs 0
 gi_wp2
 gi_loopw [3] (fun v3 wr => ∃ k : Nat, k ≤ l.length ∧ v3 = .int .i64 ((l.length : Int) - 1 - k) ∧ J (bwUpto l k) wr ∧ Below w0.heap.size w0 wr ∧ wr.heap[Bs]? = some (.cells #[.slice A l.length c] 50 (0, 0)))
  (fun v3 _ => (intOf v3 + 1).toNat)
 case atStart => exact ⟨0, Nat.zero_le _, by go_num, h0, hB, hBs⟩
 case round =>
  obtain ⟨k, hk, rfl, hJs, hBw, hBs1⟩ := hrel
  have cs1 : wr.cell? ⟨Bs, 0, none⟩ = some (.slice A l.length c) := blk_cell hBs1 0
  by_cases hlt : k < l.length
  ·obtain ⟨m, hmm⟩ : ∃ m : Nat, m = l.length - 1 - k := ⟨_, rfl⟩
   have e3 : (l.length : Int) - 1 - k = (m : Int) := by omega
   have hml : m < l.length := by omega
   obtain ⟨ad, e1, hx⟩ := Kd.at_int hr0 (m : Int) (by omega) (by omega)
   subst e1
   replace hx := (hBw.cell (World.block_lt_of_cell? w0 _ hx)).trans hx
   rw [Int.toNat_natCast] at hx
   have hgd : rd l (m : Int) = l.getD m 0 := by unfold rd; rw [Int.toNat_natCast]
   rw [hgd] at hx
   have hs := bwUpto_succ l k
   rw [← hmm] at hs
   obtain ⟨x, hxx⟩ : ∃ x, x = l.getD m 0 := ⟨_, rfl⟩
   rw [← hxx] at hx hs
   obtain ⟨fn, tmps, assign, body, hy, hR⟩ := hY _ ((m : Int), x) wr hJs (by rw [bwUpto_length]; exact hlt)
   dsimp only at hy
   have HS := aq_ hs
   clear hs hgd hxx
   rw [e3]
   have hm0 : (0 : Int) ≤ (m : Int) := by omega
   have HMM := aq_ hmm
   have HE3 := aq_ e3
   clear hmm e3
   gi_wp2
   refine hR.mono ?_
   rintro e W3 (⟨rfl, hJ3, hk3⟩ | ⟨rfl, hJx3⟩)
   ·gi_wp2
    go_roundw
    case rel => exact ⟨k + 1, by omega, by have h_ := HE3.out; first | (simp; omega) | (simp; done) | go_num, by rw [HS.out]; exact hJ3, hBw.trans hk3.1, hk3.2.trans hBs1⟩
    case measure => have h_ := HE3.out; first | (simp [intOf]; omega) | (simp [intOf]; done)
   ·gi_wp2
    refine bodyPost_ret (results_none rfl _ _ _) rfl ?_
    exact ⟨⟨_, rfl⟩, .inr ⟨_, trivial, hJx3⟩⟩
  ·obtain rfl : k = l.length := by omega
   rw [show (l.length : Int) - 1 - (l.length : Int) = -1 by omega]
   gi_wp2
   go_end0
   exact ⟨⟨_, rfl⟩, .inl ⟨_, rfl, hJs⟩⟩
theorem bw_stops (F : Fence) (n : Nat) (h38 : F.fn 111) (hro : F.round = none) (hn : 1 ≤ n) (Bs : Nat) (w0 : World) (A : Option Addr) (c : Nat) (l : List Int) (hr0 : Kd.C (Kd.int .i64) w0 A l.length l) (w : World)
  (hB : Below w0.heap.size w0 w) (hBs : w.heap[Bs]? = some (.cells #[.slice A l.length c] 50 (0, 0))) :
  SeqStopsK F n Tryz.prog 111 #[.pointer (some ⟨Bs, 0, none⟩)] (fun x : Int × Int => #[.int .i64 x.1, .int .i64 x.2]) (KpB w0.heap.size Bs) (fun ys => ys = bwUpto l l.length) (fun _ => True) l.length w := fun lk J Jx W hW _ _ hY h0 =>
 bw1_in F n h38 hro hn lk Bs w0 A c l J Jx hr0 W hY (hB.trans (hW.mono hB.size)) ((hW.block Bs (blk_lt hBs)).trans hBs) h0
theorem shut_post {F : Fence} {n : Nat} {P : Program} {c : Code} {K Post : Act → World → Prop} {Q : Exit → Act → World → Prop} {a : Act} {w : World} (h : c.wpIn F n P (Exit.then Post (fun _ _ _ => False)) a w) (hk : ∀ a w, Post a w → K a w) : c.wpIn F n P (Exit.then K Q) a w :=
 wpIn_mono h (by intro e a w h; cases e <;> first | exact hk _ _ h | exact h.elim)
def pile (n : Int) (pre : List (Int × Int)) : S24 := pre.foldl (fun acc x => ⟨2, 0, [word x.2, acc]⟩) (word n)
theorem pile_snoc (n : Int) (pre : List (Int × Int)) (x : Int × Int) : pile n (pre ++ [x]) = ⟨2, 0, [word x.2, pile n pre]⟩ := by simp [pile]
theorem pile_foldr (n : Int) (pre : List (Int × Int)) : pile n pre = (pre.map Prod.snd).foldl (fun acc y => ⟨2, 0, [word y, acc]⟩) (word n) := by
 unfold pile
 rw [List.foldl_map]
theorem bw_all (li : List Int) : (bwUpto li li.length).map Prod.snd = li.reverse := by
 apply List.ext_getElem
 ·simp [bwUpto]
 ·intro i h1 h2
  simp only [bwUpto, List.map_map, List.length_map, List.length_range] at h1
  simp only [bwUpto, List.map_map, List.getElem_map, List.getElem_range, Function.comp, List.getElem_reverse]
  rw [List.getD_eq_getElem?_getD, List.getElem?_eq_getElem (by omega)]
  rfl
theorem foldr_row (li : List Int) (n : Int) : li.foldr (fun y acc => (⟨2, 0, [word y, acc]⟩ : S24)) (word n) = rowT (li ++ [n]) := by
 induction li with
 | nil => rfl
 | cons y li ih =>
  rw [List.foldr_cons, ih]
  cases li with
  | nil => rfl
  | cons z li => rfl
theorem pile_all (li : List Int) (n : Int) : pile n (bwUpto li li.length) = rowT (li ++ [n]) := by
 rw [pile_foldr, bw_all, List.foldl_reverse, foldr_row]
def HasV (n0 B5 : Nat) (v : Value) (xs : List S24) (W : World) : Prop := ∃ ok : Nat → Prop, (∀ k, ok k → n0 < k ∧ k ≠ B5 ∧ ∃ o, W.heap[k]? = some o ∧ o.isCells = true) ∧ Kd.V k24 36 W n0 ok v xs
def PileI (n0 B5 : Nat) (n : Int) (pre : List (Int × Int)) (W : World) : Prop := ∃ v2, W.heap[B5]? = some (.cells #[.int .i64 (pile n pre).f0, .int .i64 (pile n pre).f1, v2] 36 (0, 0)) ∧ HasV n0 B5 v2 (pile n pre).f2 W
theorem pileI_own (n0 B5 : Nat) (n : Int) (B : Nat) : OwnFrom B (PileI n0 B5 n) := by
 intro pre W W' row hs hg hr
 obtain ⟨v2, hb, ok, hok, hV⟩ := hs
 have nr : ∀ k o, W.heap[k]? = some o → o.isCells = true → some k ≠ row := by
  intro k o h1 h2 e
  obtain ⟨_, o', h3, h4⟩ := hr k e.symm
  rw [h1] at h3
  injection h3 with h3
  rw [← h3, h2] at h4
  cases h4
 refine ⟨v2, (hg.block B5 (blk_lt hb) (nr _ _ hb rfl)).trans hb, ok, fun k hk => ?_, Kd.V_grown hV hg (fun k hk => ?_)⟩
 ·obtain ⟨h1, h2, o, h3, h4⟩ := hok k hk
  exact ⟨h1, h2, o, (hg.block k (blk_lt h3) (nr _ _ h3 h4)).trans h3, h4⟩
 ·obtain ⟨h1, h2, o, h3, h4⟩ := hok k hk
  exact nr _ _ h3 h4
theorem pileI_snoc {n0 B5 : Nat} {n : Int} {pre : List (Int × Int)} {x : Int × Int} {W : World} {v2 : Value} (hn : n0 ≤ B5) (hb : W.heap[B5]? = some (.cells #[.int .i64 (pile n pre).f0, .int .i64 (pile n pre).f1, v2] 36 (0, 0))) (hv : HasV n0 B5 v2 (pile n pre).f2 W) {A G : Obj} (hG : G = .cells #[.int .i64 0, .int .i64 x.2, .slice none 0 0, .int .i64 (pile n pre).f0, .int .i64 (pile n pre).f1, v2] 36 (0, 0)) :
  PileI n0 B5 n (pre ++ [x]) ((((((W.alloc A).alloc G).setCell ⟨B5, 0, none⟩ (.int .i64 2)).setCell ⟨B5, 1, none⟩ (.int .i64 0)).setCell ⟨B5, 2, none⟩ (.slice (some ⟨W.heap.size + 1, 0, none⟩) 2 2)).drew) := by
 obtain ⟨ok, hok, hV⟩ := hv
 have hlt := blk_lt hb
 have hs1 : (W.alloc A).heap.size = W.heap.size + 1 := Array.size_push _
 have g0 : ((W.alloc A).alloc G).heap[W.heap.size + 1]? = some G := by have z := blk_new (W.alloc A) G; rw [hs1] at z; exact z
 subst hG
 have hne : W.heap.size + 1 ≠ B5 := by omega
 have b0 := blk_alloc (blk_alloc hb A) (.cells #[.int .i64 0, .int .i64 x.2, .slice none 0 0, .int .i64 (pile n pre).f0, .int .i64 (pile n pre).f1, v2] 36 (0, 0))
 have b1 := blk_put (blk_put (blk_put b0 0 (.int .i64 2) rfl) 1 (.int .i64 0) rfl) 2 (.slice (some ⟨W.heap.size + 1, 0, none⟩) 2 2) rfl
 have g1 := blk_far (blk_far (blk_far g0 hne (p := ⟨B5, 0, none⟩) (.int .i64 2)) hne (p := ⟨B5, 1, none⟩) (.int .i64 0)) hne (p := ⟨B5, 2, none⟩) (.slice (some ⟨W.heap.size + 1, 0, none⟩) 2 2)
 have hk : ∀ k, ok k → k ≠ B5 := fun k h => (hok k h).2.1
 have V1 := Kd.V_drew (Kd.V_far (p := ⟨B5, 2, none⟩) (Kd.V_far (p := ⟨B5, 1, none⟩) (Kd.V_far (p := ⟨B5, 0, none⟩) (Kd.V_alloc (Kd.V_alloc hV A) (.cells #[.int .i64 0, .int .i64 x.2, .slice none 0 0, .int .i64 (pile n pre).f0, .int .i64 (pile n pre).f1, v2] 36 (0, 0))) hk (.int .i64 2)) hk (.int .i64 0)) hk (.slice (some ⟨W.heap.size + 1, 0, none⟩) 2 2))
 unfold PileI
 rw [pile_snoc]
 refine ⟨_, b1, fun k => ok k ∨ k = W.heap.size + 1, ?_, ?_⟩
 ·rintro k (h | rfl)
  ·obtain ⟨h1, h2, o, h3, h4⟩ := hok k h
   exact ⟨h1, h2, o, (Below.heap_setCell _ ⟨B5, 2, none⟩ _ k h2).trans ((Below.heap_setCell _ ⟨B5, 1, none⟩ _ k h2).trans ((Below.heap_setCell _ ⟨B5, 0, none⟩ _ k h2).trans (blk_alloc (blk_alloc h3 _) _))), h4⟩
  ·exact ⟨by omega, hne, _, g1, rfl⟩
 ·exact V_two (a := word x.2) (b := pile n pre) g1 (.inr rfl) (FK_word _ _ _) (FK_of_V (base := n0) (Kd.V_mono V1 (fun k h => .inl h)))
theorem own_b {β : Type} (B : Nat) (k : β → Nat) (o : β → Obj) (ho : ∀ s, (o s).isCells = true) : OwnFrom B (fun s W => W.heap[k s]? = some (o s)) := by
 intro s W W' row hs hg hr
 refine (hg.block (k s) (blk_lt hs) ?_).trans hs
 intro e
 obtain ⟨_, o', h1, h2⟩ := hr (k s) e.symm
 rw [hs] at h1
 injection h1 with h1
 rw [← h1, ho s] at h2
 cases h2
end Go.Proofs.YtdinphnljokigaaGreat.P
end

section
namespace Go.Proofs.YtdinphnljokigaaGreat.P
open Go.RowKit Go.Shelf Go.Proofs.YtdinphnljokigaaGreatW.PrintWords Go.Proofs.YtdinphnljokigaaGreatW.PrintLast Go.Proofs.YtdinphnljokigaaGreatW.PrintMore
attribute [local go_sem] Oper.semAt_some
theorem rowR_no' {l : List Int} (h : okRow l = false) : rowR l = z24 := by unfold rowR; rw [h]; rfl
theorem rowR_yes' {l : List Int} (h : okRow l = true) : rowR l = rowT l := by unfold rowR; rw [h]; rfl
set_option maxHeartbeats 1000000 in
set_option maxRecDepth 100000 in
theorem row_no (l : List Int) (A : Option Addr) (c : Nat) (W : World) (HC : Aside0 (Kd.C (Kd.int .i64) W A l.length l)) (h : l = [] ∨ (l ≠ [] ∧ 12 < l.length) ∨ (l ≠ [] ∧ l.length ≤ 12 ∧ ∃ x ∈ l, x < 0)) :
  Calls Tryz.prog 69 #[.slice A l.length c] W fun e w' => e = .returned (.tuple #[.agg #[.int .i64 0, .int .i64 0, .slice none 0 0], .bool false]) ∧ Below W.heap.size W w' := by
 have HB := aq_ (below_alloc (Below.refl W.heap.size W) (.cells #[.int .i64 0, .int .i64 0, .slice none 0 0] 36 (0, 0)))
 have HN := aq_ (blk_new W (.cells #[.int .i64 0, .int .i64 0, .slice none 0 0] 36 (0, 0)))
 rcases h with rfl | ⟨h0, h1⟩ | ⟨h0, h1, h2⟩
 ·go_enter Tryz.func69, Tryz.ntmps69
  go_wp2
  exact bodyPost_ret (results_ct rfl _ _ W.heap.size 36 #[.int .i64 0, .int .i64 0, .slice none 0 0] (0, 0) _ rfl HN.out Tryz.underlying36 rfl (by kernel_rfl)) rfl ⟨rfl, HB.out⟩
 ·have e0 : ((l.length : Int) == 0) = false := by simpa using h0
  have e1 : (12 : Int) < (l.length : Int) := by omega
  clear h0
  go_enter Tryz.func69, Tryz.ntmps69
  go_wp2
  exact bodyPost_ret (results_ct rfl _ _ W.heap.size 36 #[.int .i64 0, .int .i64 0, .slice none 0 0] (0, 0) _ rfl HN.out Tryz.underlying36 rfl (by kernel_rfl)) rfl ⟨rfl, HB.out⟩
 ·have e0 : ((l.length : Int) == 0) = false := by simpa using h0
  have e1 : (l.length : Int) ≤ 12 := by omega
  have HL := aq_ h0
  have HX := aq_ h2
  have HC2 := aq_ (Kd.C_below HC.out HB.out)
  clear h0 h2
  go_enter Tryz.func69, Tryz.ntmps69
  go_wp2_with (first | (go_at_call 91; refine (min_calls l HL.out A c _ HC2).mono ?_; rintro e w1 ⟨⟨mm, rfl, hmm⟩, rfl⟩; have hmm0 : mm < 0 := hmm.2 HX.out; clear hmm))
  exact bodyPost_ret (results_ct rfl _ _ W.heap.size 36 #[.int .i64 0, .int .i64 0, .slice none 0 0] (0, 0) _ rfl HN.out Tryz.underlying36 rfl (by kernel_rfl)) rfl ⟨rfl, HB.out⟩
set_option maxRecDepth 100000 in
set_option maxHeartbeats 6400000 in
theorem row_yes_in (l : List Int) (hl : l ≠ []) (h12 : l.length ≤ 12) (hpos : ∀ x ∈ l, 0 ≤ x) (A : Option Addr) (c : Nat) (w : World) (hr0 : Kd.C (Kd.int .i64) w A l.length l) (hc : l.length ≤ c) :
  CallsIn Fence.wide 5 Tryz.prog 69 #[.slice A l.length c] w fun e W' => ∃ v2_ : Value, e = .returned (.tuple #[.agg #[.int .i64 (rowT l).f0, .int .i64 (rowT l).f1, v2_], .bool true]) ∧ Kd.V k24 36 W' w.heap.size (fun k_ => (w.heap.size ≤ k_)) v2_ (rowT l).f2 ∧ Below w.heap.size w W' := by
 have t26 : Fence.wide.fn 91 := trivial
 have t27 : Fence.wide.fn 92 := trivial
 have t28 : Fence.wide.fn 93 := trivial
 have t38 : Fence.wide.fn 111 := trivial
 have hmx : Tryz.prog.follows .mixedOrders = true := by kernel_rfl
 have hp : 1 ≤ l.length := List.length_pos_iff.mpr hl
 obtain ⟨ad, e, hx⟩ := Kd.at_int hr0 ((l.length : Int) - 1) (by omega) (by omega)
 subst e
 obtain ⟨m, hm⟩ : ∃ m : Nat, m + 1 = l.length := ⟨l.length - 1, by omega⟩
 rw [show ((l.length : Int) - 1) = (m : Int) by omega, Int.toNat_natCast] at hx
 obtain ⟨x, hxx⟩ : ∃ x, x = rd l (m : Int) := ⟨_, rfl⟩
 rw [← hxx] at hx
 have HC0 := aq_ (Kd.C_below hr0 (below_alloc (Below.refl _ w) (.cells #[.int .i64 0, .int .i64 0, .slice none 0 0] 36 (0, 0))))
 have HPos := aq_ hpos
 have HL := aq_ hl
 have e0 : ((l.length : Int) == 0) = false := by simp; exact hl
 have e1 : (l.length : Int) ≤ 12 := by omega
 have e2 : (l.length : Int) - 1 = (m : Int) := by omega
 have e3 : (m : Int) < (l.length : Int) := by omega
 have hsl := sl_hi ad l.length c m (by omega)
 clear hpos hl
 refine callsIn_of_wp_marks Tryz.func69 rfl trivial ?_ rfl
 simp only [Tryz.ntmps69, List.size_toArray, List.length_cons, List.length_nil, Nat.reduceAdd, Nat.reduceSub, Array.replicate_succ, Array.replicate_zero, List.push_toArray, List.append_toArray, List.nil_append, List.cons_append]
 gi_wp2_with (first | (gi_at_call 91; refine (callsIn_wide.2 (min_calls l HL.out (some ad) c _ HC0)).mono ?_; rintro e w1 ⟨⟨mm, rfl, hmm⟩, rfl⟩; have hmm0 : ¬ mm < 0 := (fun h => by obtain ⟨z, hz, hz0⟩ := hmm.1 h; have := HPos.out z hz; omega); clear hmm))
 obtain ⟨W0, hW0⟩ : ∃ W0, (w.alloc (.cells #[.int .i64 0, .int .i64 0, .slice none 0 0] 36)).alloc (.cells #[.func (.func 92) #[] #[]] 56) = W0 := ⟨_, rfl⟩
 have hs1 : (w.alloc (.cells #[.int .i64 0, .int .i64 0, .slice none 0 0] 36)).heap.size = w.heap.size + 1 := Array.size_push _
 have hs0 : W0.heap.size = w.heap.size + 2 := by rw [← hW0]; exact (Array.size_push _).trans (by rw [hs1])
 have b2 : W0.heap[w.heap.size]? = some (.cells #[.int .i64 0, .int .i64 0, .slice none 0 0] 36 (0, 0)) := by rw [← hW0]; exact blk_alloc (blk_new w _) _
 have b4 : W0.heap[w.heap.size + 1]? = some (.cells #[.func (.func 92) #[] #[]] 56 (0, 0)) := by
  have z := blk_new (w.alloc (.cells #[.int .i64 0, .int .i64 0, .slice none 0 0] 36)) (.cells #[.func (.func 92) #[] #[]] 56)
  rw [hs1, hW0] at z
  exact z
 have HB0 := aq_ (show Below w.heap.size w W0 by rw [← hW0]; exact below_alloc (below_alloc (Below.refl _ w) _) _)
 have cx : W0.cell? (ad.add m) = some (.int .i64 x) := by rw [← hW0]; exact alloc_far (alloc_far hx _) _
 have c4 : W0.cell? ⟨w.heap.size + 1, 0, none⟩ = some (.func (.func 92) #[] #[]) := blk_cell b4 0
 have hw : IntKind.i64.wrap (m : Int) = m := by rw [IntKind.wrap_i64]; omega
 have cx1 := alloc_far cx (.cells #[.int .i64 0, .int .i64 0, .slice none 0 0] 36 (0, 0))
 have c41 := alloc_far c4 (.cells #[.int .i64 0, .int .i64 0, .slice none 0 0] 36 (0, 0))
 rw [hW0]
 have B2 := aq_ b2
 have B4 := aq_ b4
 clear hW0 b2 b4 hs1 hx
 have HX := aq_ hxx
 clear hxx
 obtain ⟨Post, hPost⟩ : ∃ Post : Act → World → Prop, Post = fun a' W => ∃ (B : Nat) (u8 u9 u10 u11 u12 u13 u14 u15 u16 u17 u18 u19 u20 u21 u22 u23 u24 u25 u26 u27 u28 u29 : Value), (B = w.heap.size + 2 ∨ B = w.heap.size + 3) ∧ a' = { tmps := #[.slice (some ad) l.length c, undef, .pointer (some ⟨w.heap.size, 0, none⟩), .bool false, .pointer (some ⟨w.heap.size + 1, 0, none⟩), .pointer (some ⟨B, 0, none⟩), undef, undef, u8, u9, u10, u11, u12, u13, u14, u15, u16, u17, u18, u19, u20, u21, u22, u23, u24, u25, u26, u27, u28, u29, undef, undef, undef, undef, undef, undef, undef, undef, undef, undef, undef, undef, undef, undef, undef], defers := [] } ∧ W = ((W0.alloc (.cells #[.int .i64 0, .int .i64 x, .slice none 0 0] 36 (0, 0))).alloc (.cells #[.int .i64 0, .int .i64 x, .slice none 0 0] 36 (0, 0))).drew := ⟨_, rfl⟩
 have HP := aq_ hPost
 clear hPost
 refine shut_post (Post := Post) ?_ ?_
 ·gi_region_with_o (gi_at_call 92; refine (word_in Fence.wide _ t27 rfl _ _).mono ?_; rintro e w' ⟨rfl, rfl⟩)
  all_goals (show Post _ _; rw [HP.out]; exact ⟨_, _, _, _, _, _, _, _, _, _, _, _, _, _, _, _, _, _, _, _, _, _, _, by omega, rfl, rfl⟩)
 rw [HP.out]
 rintro a' W5 ⟨B, u8, u9, u10, u11, u12, u13, u14, u15, u16, u17, u18, u19, u20, u21, u22, u23, u24, u25, u26, u27, u28, u29, hB5, rfl, hW5⟩
 have hsz1 : (W0.alloc (.cells #[.int .i64 0, .int .i64 x, .slice none 0 0] 36 (0, 0))).heap.size = w.heap.size + 3 := (Array.size_push _).trans (by rw [hs0])
 have hs5 : W5.heap.size = w.heap.size + 4 := by rw [hW5]; exact (Array.size_push _).trans (by rw [hsz1])
 have b2 : W5.heap[w.heap.size]? = some (.cells #[.int .i64 0, .int .i64 0, .slice none 0 0] 36 (0, 0)) := by rw [hW5]; exact blk_alloc (blk_alloc B2.out _) _
 have b4 : W5.heap[w.heap.size + 1]? = some (.cells #[.func (.func 92) #[] #[]] 56 (0, 0)) := by rw [hW5]; exact blk_alloc (blk_alloc B4.out _) _
 have b5 : W5.heap[B]? = some (.cells #[.int .i64 0, .int .i64 x, .slice none 0 0] 36 (0, 0)) := by
  rw [hW5]
  have z1 := blk_new W0 (.cells #[.int .i64 0, .int .i64 x, .slice none 0 0] 36 (0, 0))
  have z2 := blk_new (W0.alloc (.cells #[.int .i64 0, .int .i64 x, .slice none 0 0] 36 (0, 0))) (.cells #[.int .i64 0, .int .i64 x, .slice none 0 0] 36 (0, 0))
  rw [hs0] at z1
  rw [hsz1] at z2
  rcases hB5 with rfl | rfl
  ·exact blk_alloc z1 _
  ·exact z2
 have hb5 : Below w.heap.size w W5 := by rw [hW5]; exact below_drew (below_alloc (below_alloc HB0.out _) _)
 clear hW5 cx cx1 c4 c41 hsz1
 gi_wp2_with (first | (gi_at_call 93; refine (bw_in Fence.wide _ t28 rfl (some ad) m c W5).mono ?_; rintro e w6_ ⟨rfl, hw6_⟩))
 clear hw6_
 obtain ⟨w6, hw6⟩ : ∃ w6, w6 = W5.alloc (.cells #[.slice (some ad) m c] 50 (0, 0)) := ⟨_, rfl⟩
 rw [← hw6]
 have hs6 : w6.heap.size = w.heap.size + 5 := by rw [hw6]; exact (Array.size_push _).trans (by rw [hs5])
 have c2 : w6.heap[w.heap.size]? = some (.cells #[.int .i64 0, .int .i64 0, .slice none 0 0] 36 (0, 0)) := by rw [hw6]; exact blk_alloc b2 _
 have c4 : w6.heap[w.heap.size + 1]? = some (.cells #[.func (.func 92) #[] #[]] 56 (0, 0)) := by rw [hw6]; exact blk_alloc b4 _
 have c5 : w6.heap[B]? = some (.cells #[.int .i64 0, .int .i64 x, .slice none 0 0] 36 (0, 0)) := by rw [hw6]; exact blk_alloc b5 _
 have c6 : w6.heap[w.heap.size + 4]? = some (.cells #[.slice (some ad) m c] 50 (0, 0)) := by rw [hw6]; have z := blk_new W5 (.cells #[.slice (some ad) m c] 50 (0, 0)); rw [hs5] at z; exact z
 have hb6 : Below w.heap.size w w6 := by rw [hw6]; exact below_alloc hb5 _
 clear hw6 b2 b4 b5 hb5
 have hml : m ≤ l.length := by omega
 have hli : (l.take m).length = m := by rw [List.length_take]; omega
 have hr1 : Kd.C (Kd.int .i64) w (some ad) (l.take m).length (l.take m) := Kd.C_take hr0 hml
 refine wpIn_rangeFunc_ownG_of_H rfl (by omega) (gf := 111) (lb := #[.pointer (some ⟨w.heap.size + 4, 0, none⟩)]) rfl t38 (enters_of Tryz.func111 (by kernel_rfl) rfl)
  (bw_stops Fence.wide _ t38 rfl (by omega) (w.heap.size + 4) w (some ad) c (l.take m) hr1 w6 hb6 (by rw [hli]; exact c6)) kpB_t (kpB_b (by omega) (by omega)) (Below.refl _ _) (fun _ => rfl)
  (fun pre W => (((PileI w.heap.size B x pre W ∧ W.heap[w.heap.size]? = some (.cells #[.int .i64 0, .int .i64 0, .slice none 0 0] 36 (0, 0))) ∧ W.heap[w.heap.size + 1]? = some (.cells #[.func (.func 92) #[] #[]] 56 (0, 0))) ∧ W.heap[w.heap.size + 4]? = some (.cells #[.slice (some ad) m c] 50 (0, 0))) ∧ Below w.heap.size w W)
  (fun _ _ _ => False)
  (OwnFrom.and (OwnFrom.and (OwnFrom.and (OwnFrom.and (pileI_own _ _ _ _) (own_b _ (fun _ => w.heap.size) (fun _ => .cells #[.int .i64 0, .int .i64 0, .slice none 0 0] 36 (0, 0)) (fun _ => rfl))) (own_b _ (fun _ => w.heap.size + 1) (fun _ => .cells #[.func (.func 92) #[] #[]] 56 (0, 0)) (fun _ => rfl))) (own_b _ (fun _ => w.heap.size + 4) (fun _ => .cells #[.slice (some ad) m c] 50 (0, 0)) (fun _ => rfl))) (ownFrom_below (Nat.le_refl _) (by omega)))
  (fun _ _ _ _ _ hs _ _ => hs)
  ⟨⟨⟨⟨⟨_, c5, fun _ => False, fun _ h => h.elim, Kd.V_nil _ _ _ _ _⟩, c2⟩, c4⟩, c6⟩, hb6⟩
  (fun y => { tmps := #[.slice (some ad) l.length c, undef, .pointer (some ⟨w.heap.size, 0, none⟩), .bool false, .pointer (some ⟨w.heap.size + 1, 0, none⟩), .pointer (some ⟨B, 0, none⟩), undef, .int .i64 y.2, u8, u9, u10, u11, u12, u13, u14, u15, u16, u17, u18, u19, u20, u21, u22, u23, u24, u25, u26, u27, u28, u29, .slice (some ad) l.length c, .slice (some ad) l.length c, .int .i64 l.length, .int .i64 m, .slice (some ad) m c, .func (.func 111) #[] #[.pointer (some ⟨w.heap.size + 4, 0, none⟩)], .int .i64 y.1, .int .i64 y.2, undef, undef, undef, undef, undef, undef, undef], defers := [] })
  ?assign ?body ?done ?stop (fun W => ⟨Below.refl _ _, rfl⟩)
 case assign =>
  intro lk y W K hK
  gi_wp2
  exact hK
 case body =>
  rintro lk pre y W ⟨⟨⟨⟨⟨v2, d5, hv⟩, d2⟩, d4⟩, d6⟩, hbW⟩ hlt
  have hmx2 : Tryz.prog.follows .mixedOrders = true := by kernel_rfl
  have hd1 : 1 ≤ 5 - 1 - 1 := by omega
  obtain ⟨p, hp_⟩ : ∃ p, p = pile x pre := ⟨_, rfl⟩
  obtain ⟨yv, hy_⟩ : ∃ yv, yv = y.2 := ⟨_, rfl⟩
  have HPP := aq_ hp_
  have HYY := aq_ hy_
  have D5 := aq_ d5
  have HV := aq_ hv
  rw [← hp_] at d5
  rw [← hy_]
  have k4 : W.cell? ⟨w.heap.size + 1, 0, none⟩ = some (.func (.func 92) #[] #[]) := blk_cell d4 0
  have k41 : (W.alloc (.cells #[.int .i64 0, .int .i64 yv, .slice none 0 0] 36 (0, 0))).cell? ⟨w.heap.size + 1, 0, none⟩ = some (.func (.func 92) #[] #[]) := alloc_far k4 _
  obtain ⟨⟨q0, q1, q2⟩, f0, f1, f2⟩ := cells3 d5
  obtain ⟨⟨q01, q11, q21⟩, f01, f11, f21⟩ := cells3 (blk_alloc d5 (.cells #[.int .i64 0, .int .i64 yv, .slice none 0 0] 36 (0, 0)))
  obtain ⟨⟨q02, q12, q22⟩, f02, f12, f22⟩ := cells3 (blk_alloc (blk_alloc d5 (.cells #[.int .i64 0, .int .i64 yv, .slice none 0 0] 36 (0, 0))) (.cells #[.int .i64 0, .int .i64 yv, .slice none 0 0, .int .i64 p.f0, .int .i64 p.f1, v2] 36 (0, 0)))
  have hle : w.heap.size ≤ W.heap.size := hbW.size
  have hB0 : w.heap.size ≤ B := by omega
  have n2 : w.heap.size ≠ B := by omega
  have n4 : w.heap.size + 1 ≠ B := by omega
  have n6 : w.heap.size + 4 ≠ B := by omega
  obtain ⟨A, hA⟩ : ∃ A : Obj, A = .cells #[.int .i64 0, .int .i64 yv, .slice none 0 0] 36 (0, 0) := ⟨_, rfl⟩
  obtain ⟨G, hG⟩ : ∃ G : Obj, G = .cells #[.int .i64 0, .int .i64 yv, .slice none 0 0, .int .i64 p.f0, .int .i64 p.f1, v2] 36 (0, 0) := ⟨_, rfl⟩
  have hsn := pileI_snoc (x := y) hB0 D5.out HV.out (A := A) (G := G) (by rw [hG, hp_, hy_])
  obtain ⟨W', hW'⟩ : ∃ W', W' = (((((W.alloc A).alloc G).setCell ⟨B, 0, none⟩ (.int .i64 2)).setCell ⟨B, 1, none⟩ (.int .i64 0)).setCell ⟨B, 2, none⟩ (.slice (some ⟨W.heap.size + 1, 0, none⟩) 2 2)).drew := ⟨_, rfl⟩
  rw [← hW'] at hsn
  have far : ∀ (k : Nat) (o : Obj), k ≠ B → W.heap[k]? = some o → W'.heap[k]? = some o := fun k o hk h => by
   rw [hW']
   exact (Below.heap_setCell _ ⟨B, 2, none⟩ _ k hk).trans ((Below.heap_setCell _ ⟨B, 1, none⟩ _ k hk).trans ((Below.heap_setCell _ ⟨B, 0, none⟩ _ k hk).trans (blk_alloc (blk_alloc h _) _)))
  have hbb : Below w.heap.size W W' := by
   rw [hW']
   exact below_drew (((((below_alloc (below_alloc (Below.refl W.heap.size W) _) _).mono hle).setCell (p := ⟨B, 0, none⟩) hB0 _).setCell (p := ⟨B, 1, none⟩) hB0 _).setCell (p := ⟨B, 2, none⟩) hB0 _)
  have hkf : KeepsFrom w6.heap.size W W' := by
   rw [hW']
   exact ((((((KeepsOthers.alloc W A).trans (KeepsOthers.alloc _ G)).trans (KeepsOthers.setCell _ ⟨B, 0, none⟩ _)).trans (KeepsOthers.setCell _ ⟨B, 1, none⟩ _)).trans (KeepsOthers.setCell _ ⟨B, 2, none⟩ _)).trans (KeepsOthers.drew _)).from _
  have hfin : KeepsFrom w6.heap.size W W' ∧ KpB w.heap.size (w.heap.size + 4) W W' ∧ ((((PileI w.heap.size B x (pre ++ [y]) W' ∧ W'.heap[w.heap.size]? = some (.cells #[.int .i64 0, .int .i64 0, .slice none 0 0] 36 (0, 0))) ∧ W'.heap[w.heap.size + 1]? = some (.cells #[.func (.func 92) #[] #[]] 56 (0, 0))) ∧ W'.heap[w.heap.size + 4]? = some (.cells #[.slice (some ad) m c] 50 (0, 0))) ∧ Below w.heap.size w W') :=
   ⟨hkf, ⟨hbb, (far _ _ n6 d6).trans d6.symm⟩, ⟨⟨⟨hsn, far _ _ n2 d2⟩, far _ _ n4 d4⟩, far _ _ n6 d6⟩, hbW.trans hbb⟩
  subst hA
  subst hG
  rw [hW'] at hfin
  have HFIN := aq_ hfin
  clear d5 hv hp_ hy_ d2 d4 d6 hbW hle hB0 n2 n4 n6 hsn hW' far hbb hkf hfin c2 c4 c5 c6 hb6
  gi_wp2
  gi_region_with_o (gi_at_call 92; refine (CallsIn.inRound lk (word_in Fence.wide _ t27 rfl _ _)).mono ?_; rintro e w' ⟨rfl, rfl⟩)
  all_goals exact HFIN.out
 case done =>
  rintro D ys W hD hys ⟨⟨⟨⟨⟨v2, d5, hv⟩, d2⟩, d4⟩, d6⟩, hbW⟩ hK
  have hpl : pile x ys = rowT l := by
   rw [hys, pile_all, HX.out, ← rdi_take l (show m < l.length by omega), hm, List.take_length]
  rw [hpl] at d5 hv
  obtain ⟨ok, hok, hV⟩ := hv
  obtain ⟨A2, e2, rfl⟩ := Kd.V_slice hV
  obtain ⟨p, hp_⟩ : ∃ p, p = rowT l := ⟨_, rfl⟩
  rw [← hp_] at d5 hV
  have HPR := aq_ hp_
  obtain ⟨⟨q0, q1, q2⟩, f0, f1, f2⟩ := cells3 d5
  obtain ⟨⟨g0, g1, g2⟩, h0, h1, h2⟩ := cells3 d2
  have hsD : w.heap.size + 5 ≤ D := by omega
  have HBW := aq_ hbW
  have HVV := aq_ hV
  have HOK := aq_ hok
  have HKD := aq_ hK
  have D2 := aq_ d2
  clear d5 d2 d4 d6 hbW hpl hys hp_ hV hok hK c2 c4 c5 c6 hb6
  gi_wp2
  have hne : D ≠ w.heap.size := by omega
  have hK2 := (Below.heap_setCell ((W.setCell ⟨w.heap.size, 0, none⟩ (.int .i64 p.f0)).setCell ⟨w.heap.size, 1, none⟩ (.int .i64 p.f1)) ⟨w.heap.size, 2, none⟩ (.slice A2 p.f2.length e2) D hne).trans ((Below.heap_setCell (W.setCell ⟨w.heap.size, 0, none⟩ (.int .i64 p.f0)) ⟨w.heap.size, 1, none⟩ (.int .i64 p.f1) D hne).trans ((Below.heap_setCell W ⟨w.heap.size, 0, none⟩ (.int .i64 p.f0) D hne).trans HKD.out))
  have hpr := HPR.out
  clear HPR
  subst hpr
  refine ⟨by simp, .inl ⟨_, _, rfl, run_takeDeferred hK2, ?_⟩⟩
  have r2 := blk_put (blk_put (blk_put D2.out 0 (.int .i64 (rowT l).f0) rfl) 1 (.int .i64 (rowT l).f1) rfl) 2 (.slice A2 (rowT l).f2.length e2) rfl
  refine ⟨_, results_ct rfl _ _ w.heap.size 36 #[.int .i64 (rowT l).f0, .int .i64 (rowT l).f1, .slice A2 (rowT l).f2.length e2] (0, 0) _ rfl ((World.putObj_heap_other (by omega)).trans r2) Tryz.underlying36 rfl (by kernel_rfl), _, rfl, ?_, ?_⟩
  ·have hne2 : ∀ k, ok k → k ≠ w.heap.size := fun k hk => by have := (HOK.out k hk).1; omega
   have V1 := Kd.V_far (p := ⟨w.heap.size, 2, none⟩) (Kd.V_far (p := ⟨w.heap.size, 1, none⟩) (Kd.V_far (p := ⟨w.heap.size, 0, none⟩) HVV.out hne2 (.int .i64 (rowT l).f0)) hne2 (.int .i64 (rowT l).f1)) hne2 (.slice A2 (rowT l).f2.length e2)
   refine Kd.V_mono (Kd.V_step V1 (fun k hk _ => World.putObj_heap_other (fun e => ?_))) (fun k hk => by have := (HOK.out k hk).1; omega)
   obtain ⟨_, _, o, h3, h4⟩ := HOK.out k hk
   first | subst e | rw [e] at h3
   have h5 := HKD.out
   rw [h3] at h5
   injection h5 with h5
   rw [h5] at h4
   cases h4
  ·exact (below_set (below_set (below_set HBW.out (Nat.le_refl _)) (Nat.le_refl _)) (Nat.le_refl _)).trans (belowK_b (w := w) (Nat.le_refl _) _ D _ _ (by omega) hK2 rfl rfl)
 case stop =>
  rintro D c pre W _ _ h _
  exact h.elim
def term_Row.f (l0 : List Int) : Option (Int × Int × (List (S24)) × Bool) := some ((rowR l0).f0, (rowR l0).f1, (rowR l0).f2, okRow l0)
theorem term_Row.calls (A0 : Option Addr) (c0 : Nat) (l0 : List Int) (r1 : Int) (r2 : Int) (r3 : List (S24)) (r4 : Bool) (w : World) (hr0 : Kd.C (Kd.int .i64) w A0 l0.length l0) (hc0 : l0.length ≤ c0) (h : term_Row.f l0 = some (r1, r2, r3, r4)) :
  Calls Tryz.prog 69 #[.slice A0 l0.length c0] w fun e w' => ∃ v2_ : Value, e = .returned (.tuple #[.agg #[.int .i64 r1, .int .i64 r2, v2_], .bool r4]) ∧ Kd.V k24 36 w' w.heap.size (fun k_ => (w.heap.size ≤ k_)) v2_ r3 ∧ Below w.heap.size w w' := by
 simp only [term_Row.f, Option.some.injEq, Prod.mk.injEq] at h
 obtain ⟨rfl, rfl, rfl, rfl⟩ := h
 have no : okRow l0 = false → (l0 = [] ∨ (l0 ≠ [] ∧ 12 < l0.length) ∨ (l0 ≠ [] ∧ l0.length ≤ 12 ∧ ∃ x ∈ l0, x < 0)) → Calls Tryz.prog 69 #[.slice A0 l0.length c0] w fun e w' => ∃ v2_ : Value, e = .returned (.tuple #[.agg #[.int .i64 (rowR l0).f0, .int .i64 (rowR l0).f1, v2_], .bool (okRow l0)]) ∧ Kd.V k24 36 w' w.heap.size (fun k_ => (w.heap.size ≤ k_)) v2_ (rowR l0).f2 ∧ Below w.heap.size w w' := by
  intro h h2
  refine (row_no l0 A0 c0 w ⟨hr0⟩ h2).mono ?_
  rintro e w' ⟨rfl, hb⟩
  rw [rowR_no' h, h]
  exact ⟨_, rfl, Kd.V_nil _ _ _ _ _, hb⟩
 by_cases hl : l0 = []
 ·exact no (by rw [hl]; rfl) (.inl hl)
 ·by_cases h12 : 12 < l0.length
  ·exact no (by unfold okRow; rw [decide_eq_false (show ¬ l0.length ≤ 12 by omega)]; simp) (.inr (.inl ⟨hl, h12⟩))
  ·by_cases hx : ∃ x ∈ l0, x < 0
   ·refine no ?_ (.inr (.inr ⟨hl, by omega, hx⟩))
    obtain ⟨x, hm, h0⟩ := hx
    unfold okRow
    have : l0.all (fun x => decide (0 ≤ x)) = false := by rw [List.all_eq_false]; exact ⟨x, hm, by simp; omega⟩
    rw [this]
    simp
   ·have hpos : ∀ x ∈ l0, 0 ≤ x := fun x hm => by
     rcases Int.lt_or_le x 0 with h | h
     ·exact absurd ⟨x, hm, h⟩ hx
     ·exact h
    have hk : okRow l0 = true := by
     unfold okRow
     rw [decide_eq_true hl, decide_eq_true (show l0.length ≤ 12 by omega), List.all_eq_true.2 (fun x hm => by simp [hpos x hm])]
     rfl
    rw [rowR_yes' hk, hk]
    exact (callsIn_wide (n := 5)).1 (row_yes_in l0 hl (by omega) hpos A0 c0 w hr0 hc0)
end Go.Proofs.YtdinphnljokigaaGreat.P
end

section
namespace Go.Proofs.YtdinphnljokigaaGreat.P
open Go.RowKit Go.Lib Go.Proofs.YtdinphnljokigaaGreatW.PrintWords Go.Proofs.YtdinphnljokigaaGreatW.PrintLast Go.Proofs.YtdinphnljokigaaGreatW.PrintMore
theorem sin_any (n a b : Int) (w : World) : Calls Tryz.prog 43 #[.int .i64 n, .int .i64 a, .int .i64 b] w fun e w' => e = .returned (.bool (inB n a b)) ∧ w = w' := by
 by_cases h1 : a ≤ n
 ·by_cases h2 : n ≤ b
  ·go_enter Tryz.func43, Tryz.ntmps43
   go_wp2
   go_ret
   exact ⟨ret_bool (by simp [inB, h1, h2]), rfl⟩
  ·go_enter Tryz.func43, Tryz.ntmps43
   go_wp2
   go_ret
   exact ⟨ret_bool (by simp [inB, h1, h2]), rfl⟩
 ·have h3 : decide (a ≤ n) = false := by simpa using h1
  go_enter Tryz.func43, Tryz.ntmps43
  go_wp2
  go_ret
  exact ⟨ret_bool (by simp [inB]; omega), rfl⟩
theorem uin_any (n a b : Int) (w : World) : Calls Tryz.prog 71 #[.int .i64 n, .int .i64 a, .int .i64 b] w fun e w' => e = .returned (.bool (inB n a b)) ∧ w = w' := by
 by_cases h1 : a ≤ n
 ·by_cases h2 : n ≤ b
  ·go_enter Tryz.func71, Tryz.ntmps71
   go_wp2
   go_ret
   exact ⟨ret_bool (by simp [inB, h1, h2]), rfl⟩
  ·go_enter Tryz.func71, Tryz.ntmps71
   go_wp2
   go_ret
   exact ⟨ret_bool (by simp [inB, h1, h2]), rfl⟩
 ·have h3 : decide (a ≤ n) = false := by simpa using h1
  go_enter Tryz.func71, Tryz.ntmps71
  go_wp2
  go_ret
  exact ⟨ret_bool (by simp [inB]; omega), rfl⟩
def roleB (r : Int) : Bool := decide (0 ≤ r) && decide (r < 4)
theorem role_any (r : Int) (w : World) : Calls Tryz.prog 31 #[.int .i64 r] w fun e w' => e = .returned (.bool (roleB r)) ∧ w = w' := by
 by_cases h1 : 0 ≤ r
 ·by_cases h2 : r < 4
  ·go_enter Tryz.func31, Tryz.ntmps31
   go_wp2
   go_ret
   exact ⟨ret_bool (by simp [roleB, h1, h2]), rfl⟩
  ·go_enter Tryz.func31, Tryz.ntmps31
   go_wp2
   go_ret
   exact ⟨ret_bool (by simp [roleB, h1, h2]), rfl⟩
 ·have h3 : decide (0 ≤ r) = false := by simpa using h1
  go_enter Tryz.func31, Tryz.ntmps31
  go_wp2
  go_ret
  exact ⟨ret_bool (by simp [roleB]; omega), rfl⟩
def hasS (x : Ses) : Bool := inB x.user 1 255 && (inB x.epoch 0 1073741824 && (decide (x.draw < 4611686018427387904) && decide (x.cn < 4611686018427387904)))
set_option maxHeartbeats 1000000 in
theorem has_any (x : Ses) (w : World) : Calls Tryz.prog 39 #[.agg (sca x)] w fun e w' => e = .returned (.bool (hasS x)) ∧ Below w.heap.size w w' := by
 have e : hasS x = (inB x.user 1 255 && (inB x.epoch 0 1073741824 && (decide (x.draw < 4611686018427387904) && decide (x.cn < 4611686018427387904)))) := rfl
 obtain ⟨q0, q1, q2, q3, q4, q5, q6⟩ := sca_at x
 have HB := aq_ (below_box w x)
 rw [e]
 generalize h1 : inB x.user 1 255 = b1
 generalize h2 : inB x.epoch 0 1073741824 = b2
 generalize h3 : decide (x.draw < 4611686018427387904) = b3
 generalize h4 : decide (x.cn < 4611686018427387904) = b4
 have c1 := fun w => (sin_any x.user 1 255 w)
 have c2 := fun w => (sin_any x.epoch 0 1073741824 w)
 rw [h1] at c1
 rw [h2] at c2
 have C1 := aq_ c1
 have C2 := aq_ c2
 clear c1 c2 h1 h2 e
 cases b1 <;> cases b2 <;> cases b3 <;> cases b4
 all_goals
  go_enter Tryz.func39, Tryz.ntmps39
  go_wp2_with (first
   | (go_at_call 43; (with_reducible refine (C1.out _).mono ?_); rintro e w_ ⟨rfl, rfl⟩)
   | (go_at_call 43; (with_reducible refine (C2.out _).mono ?_); rintro e w_ ⟨rfl, rfl⟩))
  go_ret
  exact ⟨rfl, HB.out⟩
end Go.Proofs.YtdinphnljokigaaGreat.P
end

section
namespace Go.Proofs.YtdinphnljokigaaGreat.P
section
variable {P : Program} {a : Act} {w : World} {Q : Exit → Act → World → Prop}
theorem jump_mono {l : Nat} {J J' : Act → World → Prop} (h : ∀ a w, J a w → J' a w) : ∀ e a w, Exit.jump l J Q e a w → Exit.jump l J' Q e a w
 | .normal, _, _, h' => h'
 | .exit _, _, _, h' => h'
 | .goto _, _, _, h' => ⟨h'.1, h _ _ h'.2⟩
 | .ret, _, _, h' => h'
 | .panic _, _, _, h' => h'
 | .outgrown, _, _, h' => h'
theorem wp_scope_loop {c rest : Code} (l : Nat) (J : Act → World → Prop) (μ : Act → World → Nat) (hf : findLabel c l = some (Code.skip.seq rest))
  (pass : ∀ a w, J a w → rest.wp P (Exit.jump l (fun a' w' => J a' w' ∧ μ a' w' < μ a w) Q) a w)
  (first : (∀ a w, J a w → rest.wp P (Exit.jump l J Q) a w) → c.wp P (Exit.jump l J Q) a w) : (Code.scope c).wp P Q a w :=
 wp_scope_jumps l J μ hf (first fun a w hJ => wp_mono (pass a w hJ) (jump_mono fun _ _ h => h.1)) fun a w hJ => wp_seq (wp_skip (pass a w hJ))
end
end Go.Proofs.YtdinphnljokigaaGreat.P
end
