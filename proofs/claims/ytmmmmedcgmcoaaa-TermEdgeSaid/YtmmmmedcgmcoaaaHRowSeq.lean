/- By hand: term.Row (slices.Min, slices.Backward, a range over a function). -/
import Derived.RangeFuncNested
import Derived.RangeFuncBound
import Derived.RangeFuncCalls
import Derived.RangeFuncLeaves
import Derived.RangeFuncBox
import Derived.Shelf.Abstract
import Derived.Shelf.RegionOpen
import Derived.RegionIn
import Derived.OwnWalkIn
import Derived.TacticsInMore
import Derived.LoopNIn
import Derived.LoopIn
import Derived.Test.YtmmmmedcgmcoaaaHRowKit
namespace Go.Proofs.Ytmmmmedcgmcoaaa.P
open Go.RowKit Go.Shelf Go.Proofs.YtmmmmedcgmcoaaaW.PrintWords Go.Proofs.YtmmmmedcgmcoaaaW.PrintLast Go.Proofs.YtmmmmedcgmcoaaaW.PrintMore
set_option linter.unusedVariables false
set_option linter.unusedSimpArgs false
attribute [local go_sem] Oper.semAt_some
/-! #### slices.Min -/
theorem rdi_get (l : List Int) {i : Nat} (h : i < l.length) : rd l (i : Int) = l[i] := by
  unfold rd
  rw [Int.toNat_natCast, List.getD_eq_getElem?_getD, List.getElem?_eq_getElem h]
  rfl
theorem rdi_take (l : List Int) {i : Nat} (h : i < l.length) : l.take (i + 1) = l.take i ++ [rd l (i : Int)] := by
  rw [List.take_succ_eq_append_getElem h, rdi_get l h]
theorem min_lt {l : List Int} {m y : Int} (h : m < 0 ↔ ∃ x ∈ l, x < 0) (hy : y < m) : y < 0 ↔ ∃ x ∈ l ++ [y], x < 0 := by
  constructor
  · intro h0; exact ⟨y, by simp, h0⟩
  · rintro ⟨z, hz, hz0⟩
    rcases List.mem_append.1 hz with hz | hz
    · have := h.2 ⟨z, hz, hz0⟩; omega
    · simp at hz; omega
theorem min_ge {l : List Int} {m y : Int} (h : m < 0 ↔ ∃ x ∈ l, x < 0) (hy : m ≤ y) : m < 0 ↔ ∃ x ∈ l ++ [y], x < 0 := by
  constructor
  · intro h0; obtain ⟨z, hz, hz0⟩ := h.1 h0; exact ⟨z, by simp [hz], hz0⟩
  · rintro ⟨z, hz, hz0⟩
    rcases List.mem_append.1 hz with hz | hz
    · exact h.2 ⟨z, hz, hz0⟩
    · simp at hz; omega
set_option maxHeartbeats 1000000 in
set_option maxRecDepth 100000 in
theorem min_calls (l : List Int) (hl : l ≠ []) (A : Option Addr) (c : Nat) (W : World) (HC : Aside0 (Kd.C (Kd.int .i64) W A l.length l)) :
    Calls Try.prog 26 #[.slice A l.length c] W fun e w' => (∃ m : Int, e = .returned (.int .i64 m) ∧ (m < 0 ↔ ∃ x ∈ l, x < 0)) ∧ w' = W := by
  have hp : 1 ≤ l.length := List.length_pos_iff.mpr hl
  have hm : l.length ≤ 9223372036854775807 := HC.out.2.1
  obtain ⟨ad, e, hx⟩ := Kd.at_int HC.out 0 (by omega) (by omega)
  subst e
  simp only [show (0 : Int).toNat = 0 from rfl] at hx
  rw [Addr.add_zero'] at hx
  have e1 : ¬ (l.length : Int) < 1 := by omega
  have e2 : (0 : Int) < (l.length : Int) := by omega
  have HT0 := Aside0.mk (rdi_take l (show 0 < l.length by omega))
  clear hl
  go_enter Try.func26, Try.ntmps26
  go_wp2
  go_loopw [3, 4] (fun v3 v4 wr => ∃ (i : Nat) (m : Int), 1 ≤ i ∧ i ≤ l.length ∧ v4 = .int .i64 i ∧ v3 = .int .i64 m ∧ Aside0 (m < 0 ↔ ∃ x ∈ l.take i, x < 0) ∧ wr = W) (fun _ v4 _ => l.length - (intOf v4).toNat)
  case atStart => exact ⟨1, rd l 0, by omega, hp, rfl, rfl, ⟨by have := HT0.out; rw [Nat.zero_add, List.take_zero, List.nil_append] at this; rw [this]; simp⟩, rfl⟩
  case round =>
    obtain ⟨i, m, hi1, hi, rfl, rfl, HM, rfl⟩ := hrel
    by_cases hlt : i < l.length
    · obtain ⟨ad2, e3, hy⟩ := Kd.at_int HC.out (i : Int) (by omega) (by omega)
      injection e3 with e3
      subst e3
      rw [Int.toNat_natCast] at hy
      have HT := Aside0.mk (rdi_take l hlt)
      obtain ⟨y, hyy⟩ : ∃ y, y = rd l (i : Int) := ⟨_, rfl⟩
      rw [← hyy] at hy HT
      clear hyy
      by_cases hym : y < m
      · go_wp2
        go_roundw
        case rel => exact ⟨i + 1, y, by omega, by omega, by go_num, by first | rfl | (simp [hym]; done), ⟨by rw [HT.out]; exact min_lt HM.out hym⟩, by first | exact rfl | exact trivial⟩
        case measure => simp [intOf]; omega
      · have hmy : m ≤ y := by omega
        go_wp2
        go_roundw
        case rel => exact ⟨i + 1, m, by omega, by omega, by go_num, by first | rfl | (simp [hmy]; done), ⟨by rw [HT.out]; exact min_ge HM.out hmy⟩, by first | exact rfl | exact trivial⟩
        case measure => simp [intOf]; omega
    · obtain rfl : i = l.length := by omega
      go_wp2
      go_ret
      refine ⟨⟨_, rfl, ?_⟩, rfl⟩
      have := HM.out
      rwa [List.take_length] at this
/-! #### the word's closure, slices.Backward -/
set_option maxHeartbeats 400000 in
theorem word_in (F : Fence) (n : Nat) (h27 : F.fn 27) (hro : F.round = none) (x : Int) (w : World) :
    CallsIn F n Try.prog 27 #[.int .i64 x] w fun e w' => e = .returned (.agg #[.int .i64 0, .int .i64 x, .slice none 0 0]) ∧ w' = w.alloc (.cells #[.int .i64 0, .int .i64 x, .slice none 0 0] 24 (0, 0)) := by
  refine callsIn_of_wp Try.func27 rfl h27 ?_ hro
  simp only [Try.ntmps27, List.size_toArray, List.length_cons, List.length_nil, Nat.reduceAdd, Nat.reduceSub, Array.replicate_succ, Array.replicate_zero, List.push_toArray, List.append_toArray, List.nil_append, List.cons_append]
  gi_wp2
  refine bodyPost_ret (results_cell_row rfl _ _ w.heap.size 24 #[.int .i64 0, .int .i64 x, .slice none 0 0] (0, 0) _ rfl (blk_new w _) Try.underlying24 rfl (by kernel_rfl)) rfl ⟨rfl, rfl⟩
set_option maxHeartbeats 400000 in
theorem bw_in (F : Fence) (n : Nat) (h28 : F.fn 28) (hro : F.round = none) (A : Option Addr) (m c : Nat) (w : World) :
    CallsIn F n Try.prog 28 #[.slice A m c] w fun e w' => e = .returned (.func (.func 38) #[] #[.pointer (some ⟨w.heap.size, 0, none⟩)]) ∧ w' = w.alloc (.cells #[.slice A m c] 25 (0, 0)) := by
  refine callsIn_of_wp Try.func28 rfl h28 ?_ hro
  simp only [Try.ntmps28, List.size_toArray, List.length_cons, List.length_nil, Nat.reduceAdd, Nat.reduceSub, Array.replicate_succ, Array.replicate_zero, List.push_toArray, List.append_toArray, List.nil_append, List.cons_append]
  gi_wp2
  go_ret
  exact ⟨rfl, rfl⟩
/-- What has come when k rounds are over, from the back. -/
def bwUpto (l : List Int) (k : Nat) : List (Int × Int) := (List.range k).map fun j => (((l.length - 1 - j : Nat) : Int), l.getD (l.length - 1 - j) 0)
theorem bwUpto_succ (l : List Int) (k : Nat) : bwUpto l (k + 1) = bwUpto l k ++ [(((l.length - 1 - k : Nat) : Int), l.getD (l.length - 1 - k) 0)] := by simp [bwUpto, List.range_succ]
theorem bwUpto_length (l : List Int) (k : Nat) : (bwUpto l k).length = k := by simp [bwUpto]
def KpB (n₀ Bs : Nat) (W W' : World) : Prop := Below n₀ W W' ∧ W'.heap[Bs]? = W.heap[Bs]?
theorem kpB_t {n₀ Bs : Nat} {A B C : World} (h : KpB n₀ Bs A B) (k : KpB n₀ Bs B C) : KpB n₀ Bs A C := ⟨h.1.trans k.1, k.2.trans h.2⟩
theorem kpB_b {n₀ Bs : Nat} {w : World} (hn : n₀ ≤ w.heap.size) (hk : Bs < w.heap.size) (W : World) (l : Nat) (o o' : Obj) (hl : w.heap.size ≤ l) (h : W.heap[l]? = some o) (h1 : o.isCells = false) (h2 : o.isWalk = false) : KpB n₀ Bs W (W.putObj l o') :=
  ⟨belowK_b hn W l o o' hl h h1 h2, World.putObj_heap_other (by omega)⟩
set_option maxRecDepth 100000 in
set_option maxHeartbeats 2000000 in
theorem bw1_in (F : Fence) (n : Nat) (h38 : F.fn 38) (hro : F.round = none) (hn : 1 ≤ n) (lk Bs : Nat) (w0 : World) (A : Option Addr) (c : Nat) (l : List Int) (J Jx : List (Int × Int) → World → Prop)
    (hr0 : Kd.C (Kd.int .i64) w0 A l.length l) (W : World)
    (hY : ∀ pre x W1, J pre W1 → pre.length < l.length → YieldAt F (n - 1) Try.prog lk #[.int .i64 x.1, .int .i64 x.2] W1 fun e W' =>
      (e = .returned (.bool true) ∧ J (pre ++ [x]) W' ∧ KpB w0.heap.size Bs W1 W') ∨ (e = .returned (.bool false) ∧ Jx (pre ++ [x]) W'))
    (hB : Below w0.heap.size w0 W) (hBs : W.heap[Bs]? = some (.cells #[.slice A l.length c] 25 (0, 0))) (h0 : J [] W) :
    CallsIn F n Try.prog 38 #[.func (.yield lk) #[] #[], .pointer (some ⟨Bs, 0, none⟩)] W fun e W' => (∃ v, e = .returned v) ∧
      ((∃ ys, ys = bwUpto l l.length ∧ J ys W') ∨ (∃ pre, True ∧ Jx pre W')) := by
  refine callsIn_of_wp Try.func38 rfl h38 ?_ hro
  simp only [Try.ntmps38, List.size_toArray, List.length_cons, List.length_nil, Nat.reduceAdd, Nat.reduceSub, Array.replicate_succ, Array.replicate_zero, List.push_toArray, List.append_toArray, List.nil_append, List.cons_append]
  have hm : l.length ≤ 9223372036854775807 := hr0.2.1
  have cs0 : W.cell? ⟨Bs, 0, none⟩ = some (.slice A l.length c) := blk_cell hBs 0
  gi_wp2
  gi_loopw [3] (fun v3 wr => ∃ k : Nat, k ≤ l.length ∧ v3 = .int .i64 ((l.length : Int) - 1 - k) ∧ J (bwUpto l k) wr ∧ Below w0.heap.size w0 wr ∧ wr.heap[Bs]? = some (.cells #[.slice A l.length c] 25 (0, 0)))
    (fun v3 _ => (intOf v3 + 1).toNat)
  case atStart => exact ⟨0, Nat.zero_le _, by go_num, h0, hB, hBs⟩
  case round =>
    obtain ⟨k, hk, rfl, hJs, hBw, hBs1⟩ := hrel
    have cs1 : wr.cell? ⟨Bs, 0, none⟩ = some (.slice A l.length c) := blk_cell hBs1 0
    by_cases hlt : k < l.length
    · obtain ⟨m, hmm⟩ : ∃ m : Nat, m = l.length - 1 - k := ⟨_, rfl⟩
      have e3 : (l.length : Int) - 1 - k = (m : Int) := by omega
      have hml : m < l.length := by omega
      obtain ⟨ad, e1, hx⟩ := Kd.at_int hr0 (m : Int) (by omega) (by omega)
      subst e1
      replace hx := (hBw.cell (World.block_lt_of_cell? w0 _ hx)).trans hx
      rw [Int.toNat_natCast] at hx
      have hgd : rd l (m : Int) = l.getD m 0 := by unfold rd; rw [Int.toNat_natCast]
      rw [hgd] at hx
      have hs := bwUpto_succ l k
      rw [← hmm] at hs
      obtain ⟨x, hxx⟩ : ∃ x, x = l.getD m 0 := ⟨_, rfl⟩
      rw [← hxx] at hx hs
      obtain ⟨fn, tmps, assign, body, hy, hR⟩ := hY _ ((m : Int), x) wr hJs (by rw [bwUpto_length]; exact hlt)
      dsimp only at hy
      have HS := Aside0.mk hs
      clear hs hgd hxx
      rw [e3]
      have hm0 : (0 : Int) ≤ (m : Int) := by omega
      have HMM := Aside0.mk hmm
      have HE3 := Aside0.mk e3
      clear hmm e3
      gi_wp2
      refine hR.mono ?_
      rintro e W3 (⟨rfl, hJ3, hk3⟩ | ⟨rfl, hJx3⟩)
      · gi_wp2
        go_roundw
        case rel => exact ⟨k + 1, by omega, by have h_ := HE3.out; first | (simp; omega) | (simp; done) | go_num, by rw [HS.out]; exact hJ3, hBw.trans hk3.1, hk3.2.trans hBs1⟩
        case measure => have h_ := HE3.out; first | (simp [intOf]; omega) | (simp [intOf]; done)
      · gi_wp2
        refine bodyPost_ret (results_none rfl _ _ _) rfl ?_
        exact ⟨⟨_, rfl⟩, .inr ⟨_, trivial, hJx3⟩⟩
    · obtain rfl : k = l.length := by omega
      rw [show (l.length : Int) - 1 - (l.length : Int) = -1 by omega]
      gi_wp2
      go_end0
      exact ⟨⟨_, rfl⟩, .inl ⟨_, rfl, hJs⟩⟩
theorem bw_stops (F : Fence) (n : Nat) (h38 : F.fn 38) (hro : F.round = none) (hn : 1 ≤ n) (Bs : Nat) (w0 : World) (A : Option Addr) (c : Nat) (l : List Int) (hr0 : Kd.C (Kd.int .i64) w0 A l.length l) (w : World)
    (hB : Below w0.heap.size w0 w) (hBs : w.heap[Bs]? = some (.cells #[.slice A l.length c] 25 (0, 0))) :
    SeqStopsK F n Try.prog 38 #[.pointer (some ⟨Bs, 0, none⟩)] (fun x : Int × Int => #[.int .i64 x.1, .int .i64 x.2]) (KpB w0.heap.size Bs) (fun ys => ys = bwUpto l l.length) (fun _ => True) l.length w := fun lk J Jx W hW _ _ hY h0 =>
  bw1_in F n h38 hro hn lk Bs w0 A c l J Jx hr0 W hY (hB.trans (hW.mono hB.size)) ((hW.block Bs (blk_lt hBs)).trans hBs) h0
/-- A part of a body that does not panic: of the ways out, the plain one alone. -/
theorem shut_post {F : Fence} {n : Nat} {P : Program} {c : Code} {K Post : Act → World → Prop} {Q : Exit → Act → World → Prop} {a : Act} {w : World} (h : c.wpIn F n P (Exit.then Post (fun _ _ _ => False)) a w) (hk : ∀ a w, Post a w → K a w) : c.wpIn F n P (Exit.then K Q) a w :=
  wpIn_mono h (by intro e a w h; cases e <;> first | exact hk _ _ h | exact h.elim)
/-- The pairs, laid one on the other. -/
def pile (n : Int) (pre : List (Int × Int)) : S24 := pre.foldl (fun acc x => ⟨2, 0, [word x.2, acc]⟩) (word n)
theorem pile_snoc (n : Int) (pre : List (Int × Int)) (x : Int × Int) : pile n (pre ++ [x]) = ⟨2, 0, [word x.2, pile n pre]⟩ := by simp [pile]
theorem pile_foldr (n : Int) (pre : List (Int × Int)) : pile n pre = (pre.map Prod.snd).foldl (fun acc y => ⟨2, 0, [word y, acc]⟩) (word n) := by
  unfold pile
  rw [List.foldl_map]
theorem bw_all (li : List Int) : (bwUpto li li.length).map Prod.snd = li.reverse := by
  apply List.ext_getElem
  · simp [bwUpto]
  · intro i h1 h2
    simp only [bwUpto, List.map_map, List.length_map, List.length_range] at h1
    simp only [bwUpto, List.map_map, List.getElem_map, List.getElem_range, Function.comp, List.getElem_reverse]
    rw [List.getD_eq_getElem?_getD, List.getElem?_eq_getElem (by omega)]
    rfl
theorem foldr_row (li : List Int) (n : Int) : li.foldr (fun y acc => (⟨2, 0, [word y, acc]⟩ : S24)) (word n) = rowT (li ++ [n]) := by
  induction li with
  | nil => rfl
  | cons y li ih =>
    rw [List.foldr_cons, ih]
    cases li with
    | nil => rfl
    | cons z li => rfl
theorem pile_all (li : List Int) (n : Int) : pile n (bwUpto li li.length) = rowT (li ++ [n]) := by
  rw [pile_foldr, bw_all, List.foldl_reverse, foldr_row]
/-- A tree's row whose blocks are cells, none of them the box. -/
def HasV (n0 B5 : Nat) (v : Value) (xs : List S24) (W : World) : Prop := ∃ ok : Nat → Prop, (∀ k, ok k → n0 < k ∧ k ≠ B5 ∧ ∃ o, W.heap[k]? = some o ∧ o.isCells = true) ∧ Kd.V k24 24 W n0 ok v xs
def PileI (n0 B5 : Nat) (n : Int) (pre : List (Int × Int)) (W : World) : Prop := ∃ v2, W.heap[B5]? = some (.cells #[.int .i64 (pile n pre).f0, .int .i64 (pile n pre).f1, v2] 24 (0, 0)) ∧ HasV n0 B5 v2 (pile n pre).f2 W
theorem pileI_own (n0 B5 : Nat) (n : Int) (B : Nat) : OwnFrom B (PileI n0 B5 n) := by
  intro pre W W' row hs hg hr
  obtain ⟨v2, hb, ok, hok, hV⟩ := hs
  have nr : ∀ k o, W.heap[k]? = some o → o.isCells = true → some k ≠ row := by
    intro k o h1 h2 e
    obtain ⟨_, o', h3, h4⟩ := hr k e.symm
    rw [h1] at h3
    injection h3 with h3
    rw [← h3, h2] at h4
    cases h4
  refine ⟨v2, (hg.block B5 (blk_lt hb) (nr _ _ hb rfl)).trans hb, ok, fun k hk => ?_, Kd.V_grown hV hg (fun k hk => ?_)⟩
  · obtain ⟨h1, h2, o, h3, h4⟩ := hok k hk
    exact ⟨h1, h2, o, (hg.block k (blk_lt h3) (nr _ _ h3 h4)).trans h3, h4⟩
  · obtain ⟨h1, h2, o, h3, h4⟩ := hok k hk
    exact nr _ _ h3 h4
theorem pileI_snoc {n0 B5 : Nat} {n : Int} {pre : List (Int × Int)} {x : Int × Int} {W : World} {v2 : Value} (hn : n0 ≤ B5) (hb : W.heap[B5]? = some (.cells #[.int .i64 (pile n pre).f0, .int .i64 (pile n pre).f1, v2] 24 (0, 0))) (hv : HasV n0 B5 v2 (pile n pre).f2 W) {A G : Obj} (hG : G = .cells #[.int .i64 0, .int .i64 x.2, .slice none 0 0, .int .i64 (pile n pre).f0, .int .i64 (pile n pre).f1, v2] 24 (0, 0)) :
    PileI n0 B5 n (pre ++ [x]) ((((((W.alloc A).alloc G).setCell ⟨B5, 0, none⟩ (.int .i64 2)).setCell ⟨B5, 1, none⟩ (.int .i64 0)).setCell ⟨B5, 2, none⟩ (.slice (some ⟨W.heap.size + 1, 0, none⟩) 2 2)).drew) := by
  obtain ⟨ok, hok, hV⟩ := hv
  have hlt := blk_lt hb
  have hs1 : (W.alloc A).heap.size = W.heap.size + 1 := Array.size_push _
  have g0 : ((W.alloc A).alloc G).heap[W.heap.size + 1]? = some G := by have z := blk_new (W.alloc A) G; rw [hs1] at z; exact z
  subst hG
  have hne : W.heap.size + 1 ≠ B5 := by omega
  have b0 := blk_alloc (blk_alloc hb A) (.cells #[.int .i64 0, .int .i64 x.2, .slice none 0 0, .int .i64 (pile n pre).f0, .int .i64 (pile n pre).f1, v2] 24 (0, 0))
  have b1 := blk_put (blk_put (blk_put b0 0 (.int .i64 2) rfl) 1 (.int .i64 0) rfl) 2 (.slice (some ⟨W.heap.size + 1, 0, none⟩) 2 2) rfl
  have g1 := blk_far (blk_far (blk_far g0 hne (p := ⟨B5, 0, none⟩) (.int .i64 2)) hne (p := ⟨B5, 1, none⟩) (.int .i64 0)) hne (p := ⟨B5, 2, none⟩) (.slice (some ⟨W.heap.size + 1, 0, none⟩) 2 2)
  have hk : ∀ k, ok k → k ≠ B5 := fun k h => (hok k h).2.1
  have V1 := Kd.V_drew (Kd.V_far (p := ⟨B5, 2, none⟩) (Kd.V_far (p := ⟨B5, 1, none⟩) (Kd.V_far (p := ⟨B5, 0, none⟩) (Kd.V_alloc (Kd.V_alloc hV A) (.cells #[.int .i64 0, .int .i64 x.2, .slice none 0 0, .int .i64 (pile n pre).f0, .int .i64 (pile n pre).f1, v2] 24 (0, 0))) hk (.int .i64 2)) hk (.int .i64 0)) hk (.slice (some ⟨W.heap.size + 1, 0, none⟩) 2 2))
  unfold PileI
  rw [pile_snoc]
  refine ⟨_, b1, fun k => ok k ∨ k = W.heap.size + 1, ?_, ?_⟩
  · rintro k (h | rfl)
    · obtain ⟨h1, h2, o, h3, h4⟩ := hok k h
      exact ⟨h1, h2, o, (Below.heap_setCell _ ⟨B5, 2, none⟩ _ k h2).trans ((Below.heap_setCell _ ⟨B5, 1, none⟩ _ k h2).trans ((Below.heap_setCell _ ⟨B5, 0, none⟩ _ k h2).trans (blk_alloc (blk_alloc h3 _) _))), h4⟩
    · exact ⟨by omega, hne, _, g1, rfl⟩
  · exact V_two (a := word x.2) (b := pile n pre) g1 (.inr rfl) (FK_word _ _ _) (FK_of_V (base := n0) (Kd.V_mono V1 (fun k h => .inl h)))
theorem own_b {β : Type} (B : Nat) (k : β → Nat) (o : β → Obj) (ho : ∀ s, (o s).isCells = true) : OwnFrom B (fun s W => W.heap[k s]? = some (o s)) := by
  intro s W W' row hs hg hr
  refine (hg.block (k s) (blk_lt hs) ?_).trans hs
  intro e
  obtain ⟨_, o', h1, h2⟩ := hr (k s) e.symm
  rw [hs] at h1
  injection h1 with h1
  rw [← h1, ho s] at h2
  cases h2
end Go.Proofs.Ytmmmmedcgmcoaaa.P
