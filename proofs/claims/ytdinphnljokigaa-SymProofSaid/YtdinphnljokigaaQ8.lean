/- What LawSymProof rests on, part 8: several texts put together. -/
import Derived.Test.YtdinphnljokigaaQ3
import Derived.RangeFuncBox
import Derived.Laws.EntriesVeiled
import Derived.RangeFuncNested
import Derived.RangeFuncBound
import Derived.RangeFuncCalls
import Derived.RangeFuncLeaves
import Derived.Shelf.Abstract
import Derived.Shelf.RegionOpen
import Derived.RegionIn
import Derived.OwnWalkIn
import Derived.TacticsInMore
import Derived.LoopNIn
import Derived.LoopIn
import Derived.Test.YtdinphnljokigaaQ2
set_option linter.unusedVariables false
set_option linter.unnecessarySimpa false
set_option linter.unusedSimpArgs false
set_option maxRecDepth 100000
section
namespace Go.Proofs.Ytdinphnljokigaa.P
open Go.RowKit Go.Lib Go.Proofs.YtdinphnljokigaaW.PrintWords Go.Proofs.YtdinphnljokigaaW.PrintLast Go.Proofs.YtdinphnljokigaaW.PrintMore
theorem info3 : (Try.prog.info? 3).map (fun i => (i.zero, i.size, i.bytes)) = some (some (.int .i64 0), 1, 8) := by kernel_rfl
theorem info24 : (Try.prog.info? 32).map (fun i => (i.zero, i.size, i.bytes)) = some (some (.agg #[(.int .i64 0), (.int .i64 0), (.slice none 0 0)]), 3, 40) := by kernel_rfl
-- the values' own types
/-! #### struct type 32, nested in itself -/
structure S24 where
 f0 : Int
 f1 : Int
 f2 : (List S24)
def z24 : S24 := ⟨(0 : Int), (0 : Int), ([] : List S24)⟩
def F24 (d : Kd S24) : Kd S24 := Kd.iso (Kd.pair (Kd.int .i64) (Kd.pair (Kd.int .i64) (Kd.slice 32 d))) (fun x : S24 => (x.f0, x.f1, x.f2))
theorem mono24 : Kd.Mono F24 := Kd.mono_iso _ (Kd.mono_pair (Kd.mono_const _) (Kd.mono_pair (Kd.mono_const _) (Kd.mono_slice 32 Kd.mono_id)))
theorem sub24 : Kd.Sub F24 [32] := Kd.sub_iso _ (Kd.sub_pair (Kd.sub_const _ (by decide)) (Kd.sub_pair (Kd.sub_const _ (by decide)) (Kd.sub_slice 32 (by decide) Kd.sub_id)))
theorem sz24 : ∀ n, (Kd.upto F24 3 [32] n).sz = 3 := Kd.upto_sz (fun _ => rfl)
def k24 : Kd S24 := Kd.fix F24 3 [32] sz24 (Kd.upto_E sub24)
theorem k24_heap : Kd.Heap k24 := Kd.heap_fix (fun _ h_ => Kd.heap_iso _ (Kd.heap_pair (Kd.heap_int .i64) (Kd.heap_pair (Kd.heap_int .i64) (Kd.heap_slice 32 h_))))
theorem k24_open {w : World} {x : S24} {cs : List Value} (h : k24.K w x cs) : ∃ A2 c2, cs = [.int .i64 x.f0, .int .i64 x.f1, .slice A2 x.f2.length c2] ∧ x.f2.length ≤ c2 ∧ k24.C w A2 x.f2.length x.f2 := by
 obtain ⟨n, h⟩ := h
 cases n with
 | zero => exact h.elim
 | succ n =>
  obtain ⟨_, _, rfl, rfl, ⟨_, _, rfl, rfl, ⟨A2, c2, rfl, l2, g2⟩⟩⟩ := h
  exact ⟨A2, c2, rfl, l2, Kd.fix_C g2⟩
theorem k24_mk (w : World) (x : S24) {A2 : Option Addr} {c2 : Nat} (l2 : x.f2.length ≤ c2) (g2 : k24.C w A2 x.f2.length x.f2) : k24.K w x [.int .i64 x.f0, .int .i64 x.f1, .slice A2 x.f2.length c2] := by
 obtain ⟨n2, q2⟩ := Kd.fix_C_back mono24 g2
 have r2 := Kd.upto_C_le mono24 sz24 (show n2 ≤ n2 by omega) q2
 exact ⟨n2 + 1, ⟨[.int .i64 x.f0], [.int .i64 x.f1, .slice A2 x.f2.length c2], rfl, rfl, ⟨[.int .i64 x.f1], [.slice A2 x.f2.length c2], rfl, rfl, ⟨A2, c2, rfl, l2, r2⟩⟩⟩⟩
theorem k24_openF {W : World} {ok : Nat → Prop} {x : S24} {cs : List Value} (h : Kd.FK k24 W ok x cs) : ∃ A2 c2, cs = [.int .i64 x.f0, .int .i64 x.f1, .slice A2 x.f2.length c2] ∧ x.f2.length ≤ c2 ∧ Kd.F k24 W ok A2 x.f2.length x.f2 := by
 obtain ⟨A2, c2, rfl, l2, _⟩ := k24_open (Kd.FK_now h)
 exact ⟨A2, c2, rfl, l2, (fun W' hW => by obtain ⟨A2_, c2_, he, l2_, g2_⟩ := k24_open (h W' hW); injection (Option.some.inj (show some (Value.slice A2 x.f2.length c2) = some (Value.slice A2_ x.f2.length c2_) from congrArg (fun l => l[2]?) he)) with ha_ _ _; rw [ha_]; exact g2_)⟩
theorem k24_mkF (W : World) (ok : Nat → Prop) (x : S24) {A2 : Option Addr} {c2 : Nat} (l2 : x.f2.length ≤ c2) (g2 : Kd.F k24 W ok A2 x.f2.length x.f2) : Kd.FK k24 W ok x [.int .i64 x.f0, .int .i64 x.f1, .slice A2 x.f2.length c2] := fun W2 hW => k24_mk W2 x l2 (g2 W2 hW)
def rd_T24 (xs : List S24) (i : Int) : S24 := xs.getD i.toNat z24
theorem at_T24 {w : World} {A : Option Addr} {n : Nat} {xs : List S24} (h : Kd.C k24 w A n xs) (i : Int) (h0 : 0 ≤ i) (h1 : i < n) : ∃ ad A2 c2, A = some ad ∧ w.cell? (ad.add (i.toNat * 3)) = some (.int .i64 (rd_T24 xs i).f0) ∧ w.cell? ⟨(ad.add (i.toNat * 3)).block, (ad.add (i.toNat * 3)).off + 1, none⟩ = some (.int .i64 (rd_T24 xs i).f1) ∧ w.cell? ⟨(ad.add (i.toNat * 3)).block, (ad.add (i.toNat * 3)).off + 2, none⟩ = some (.slice A2 (rd_T24 xs i).f2.length c2) ∧ (rd_T24 xs i).f2.length ≤ c2 ∧ k24.C w A2 (rd_T24 xs i).f2.length (rd_T24 xs i).f2 := by
 obtain ⟨ad, c, e, _, hK, hc0⟩ := Kd.C_get h z24 i h0 h1
 have hc : ∀ j u, c[j]? = some u → w.cell? (ad.add (i.toNat * 3 + j)) = some u := hc0
 obtain ⟨A2, c2, rfl, l2, g2⟩ := k24_open hK
 exact ⟨ad, A2, c2, e, hc 0 _ rfl, by rw [← add_field _ _ 1 (by omega)]; exact hc 1 _ rfl, by rw [← add_field _ _ 2 (by omega)]; exact hc 2 _ rfl, l2, g2⟩
end Go.Proofs.Ytdinphnljokigaa.P
end

section
namespace Go.Proofs.Ytdinphnljokigaa.P
open Go.RowKit Go.Proofs.YtdinphnljokigaaW.PrintWords Go.Proofs.YtdinphnljokigaaW.PrintLast Go.Proofs.YtdinphnljokigaaW.PrintMore
mutual
def tsize : S24 → Nat
 | ⟨_, _, l⟩ => lsize l + 1
def lsize : List S24 → Nat
 | [] => 0
 | x :: l => tsize x + lsize l
end
mutual
def foldT {σ : Type} (g : σ → S24 → Int → σ) (s : σ) (x : S24) (d : Int) : σ := match x with
 | ⟨a, b, l⟩ => foldL g (g s ⟨a, b, l⟩ d) l (wrap64 (d + 1))
def foldL {σ : Type} (g : σ → S24 → Int → σ) (s : σ) (l : List S24) (d : Int) : σ := match l with
 | [] => s
 | x :: l => foldL g (foldT g s x d) l d
end
theorem foldT_eq {σ : Type} (g : σ → S24 → Int → σ) (s : σ) (x : S24) (d : Int) : foldT g s x d = foldL g (g s x d) x.f2 (wrap64 (d + 1)) := by
 cases x; rw [foldT]
theorem foldL_append {σ : Type} (g : σ → S24 → Int → σ) (d : Int) : ∀ (l k : List S24) (s : σ), foldL g s (l ++ k) d = foldL g (foldL g s l d) k d
 | [], k, s => by simp [foldL]
 | x :: l, k, s => by simp only [List.cons_append, foldL]; exact foldL_append g d l k _
theorem foldL_snoc {σ : Type} (g : σ → S24 → Int → σ) (s : σ) (l : List S24) (x : S24) (d : Int) : foldL g s (l ++ [x]) d = foldT g (foldL g s l d) x d := by
 rw [foldL_append]; simp [foldL]
theorem tsize_eq (x : S24) : tsize x = lsize x.f2 + 1 := by cases x; rw [tsize]
theorem lsize_mem : ∀ (l : List S24) (x : S24), x ∈ l → tsize x ≤ lsize l
 | [], _, h => by simp at h
 | y :: l, x, h => by
  rw [lsize]
  rcases List.mem_cons.1 h with rfl | h
  ·omega
  ·have := lsize_mem l x h; omega
theorem rdT_mem (l : List S24) {i : Nat} (h : i < l.length) : rd_T24 l (i : Int) ∈ l := by
 unfold rd_T24
 rw [Int.toNat_natCast, List.getD_eq_getElem?_getD, List.getElem?_eq_getElem h]
 exact List.getElem_mem h
theorem rdT_get (l : List S24) {i : Nat} (h : i < l.length) : rd_T24 l (i : Int) = l[i] := by
 unfold rd_T24
 rw [Int.toNat_natCast, List.getD_eq_getElem?_getD, List.getElem?_eq_getElem h]
 rfl
theorem rdT_take (l : List S24) {i : Nat} (h : i < l.length) : l.take (i + 1) = l.take i ++ [rd_T24 l i] := by
 rw [List.take_succ_eq_append_getElem h, rdT_get l h]
theorem rdT_size (x : S24) {i : Nat} (h : i < x.f2.length) : tsize (rd_T24 x.f2 i) < tsize x := by
 have := lsize_mem x.f2 _ (rdT_mem x.f2 h)
 rw [tsize_eq x]; omega
/-- A cell of an elder block, behind a new one. -/
theorem blk_alloc_cell {W : World} {g : Nat} {v : Value} {t : TypeId} (h : W.heap[g]? = some (.cells #[v] t (0, 0))) (o : Obj) : (W.alloc o).cell? ⟨g, 0, none⟩ = some v := blk_cell (blk_alloc h o) 0
theorem alloc_far {W : World} {a : Addr} {v : Value} (h : W.cell? a = some v) (o : Obj) : (W.alloc o).cell? a = some v := by
 have hb := World.block_lt_of_cell? W a h
 have e : (W.alloc o).heap[a.block]? = W.heap[a.block]? := Below.heap_alloc W o a.block hb
 exact (World.cell?_of_block e).trans h
theorem three_blocks (w : World) (o1 o2 o3 : Obj) : (((w.alloc o1).alloc o2).alloc o3).heap[w.heap.size + 1]? = some o2 ∧ (((w.alloc o1).alloc o2).alloc o3).heap[w.heap.size + 1 + 1]? = some o3 := by
 have s1 : (w.alloc o1).heap.size = w.heap.size + 1 := Array.size_push _
 have s2 : ((w.alloc o1).alloc o2).heap.size = w.heap.size + 1 + 1 := (Array.size_push _).trans (by rw [s1])
 have b2 := World.alloc_heap_new (w.alloc o1) o2
 have b3 := World.alloc_heap_new ((w.alloc o1).alloc o2) o3
 rw [s1] at b2
 rw [s2] at b3
 exact ⟨(Below.heap_alloc _ _ _ (by omega)).trans b2, b3⟩
def word (n : Int) : S24 := ⟨0, n, []⟩
def rowT : List Int → S24
 | [] => z24
 | [x] => word x
 | x :: y :: l => ⟨2, 0, [word x, rowT (y :: l)]⟩
def okRow (l : List Int) : Bool := decide (l ≠ []) && (decide (l.length ≤ 12) && l.all fun x => decide (0 ≤ x))
def rowR (l : List Int) : S24 := if okRow l = true then rowT l else z24
theorem FK_word (W : World) (ok : Nat → Prop) (n : Int) : Kd.FK k24 W ok (word n) [.int .i64 0, .int .i64 n, .slice none 0 0] :=
 k24_mkF W ok (word n) (A2 := none) (c2 := 0) (Nat.le_refl _) (Kd.F_nil _ _ _)
theorem FK_of_V {W : World} {base : Nat} {ok : Nat → Prop} {x : S24} {v : Value} (h : Kd.V k24 32 W base ok v x.f2) : Kd.FK k24 W ok x [.int .i64 x.f0, .int .i64 x.f1, v] := by
 obtain ⟨A, c, rfl, hl, hF⟩ := h
 exact k24_mkF W ok x hl hF
/-- A row of two elements. -/
theorem F_two {W : World} {ok : Nat → Prop} {g : Nat} {a b : S24} {a0 a1 a2 b0 b1 b2 : Value} (hg : W.heap[g]? = some (.cells #[a0, a1, a2, b0, b1, b2] 32 (0, 0))) (hok : ok g) (ha : Kd.FK k24 W ok a [a0, a1, a2]) (hb : Kd.FK k24 W ok b [b0, b1, b2]) :
  Kd.F k24 W ok (some ⟨g, 0, none⟩) 2 [a, b] := by
 intro W' hW
 have hg' : W'.heap[g]? = some (.cells #[a0, a1, a2, b0, b1, b2] 32 (0, 0)) := (hW g hok (blk_lt hg)).trans hg
 refine ⟨rfl, by omega, fun _ => ⟨_, rfl, fun j p hj => ?_⟩⟩
 have hc : ∀ i, W'.cell? ((⟨g, 0, none⟩ : Addr).add i) = #[a0, a1, a2, b0, b1, b2][i]? := fun i => by
  rw [add_plain]
  exact blk_cell hg' i
 rcases j with _ | _ | j
 ·simp only [List.getElem?_cons_zero, Option.some.injEq] at hj
  subst hj
  refine ⟨_, rfl, ha W' hW, fun i u hu => ?_⟩
  rw [hc, Nat.zero_mul, Nat.zero_add]
  rcases i with _ | _ | _ | i
  all_goals first | (simp at hu; done) | exact hu
 ·simp only [List.getElem?_cons_succ, List.getElem?_cons_zero, Option.some.injEq] at hj
  subst hj
  refine ⟨_, rfl, hb W' hW, fun i u hu => ?_⟩
  rw [hc]
  rcases i with _ | _ | _ | i
  all_goals first | (simp at hu; done) | exact hu
 ·simp at hj
theorem V_two {W : World} {base : Nat} {ok : Nat → Prop} {g : Nat} {a b : S24} {a0 a1 a2 b0 b1 b2 : Value} (hg : W.heap[g]? = some (.cells #[a0, a1, a2, b0, b1, b2] 32 (0, 0))) (hok : ok g) (ha : Kd.FK k24 W ok a [a0, a1, a2]) (hb : Kd.FK k24 W ok b [b0, b1, b2]) :
  Kd.V k24 32 W base ok (.slice (some ⟨g, 0, none⟩) 2 2) [a, b] := ⟨_, _, rfl, Nat.le_refl _, F_two hg hok ha hb⟩
theorem sl_hi (ad : Addr) (n c m : Nat) (hm : m ≤ c) : ∀ W : World, (Instr.slice 68 (.slice (some ad) n c) none (some (.int .i64 m)) none).run Try.prog W = .ok (.slice (some ad) m c) W := by
 intro W
 have hel : Try.prog.elem 68 = 3 := by simp [Program.elem, Try.underlying68]
 have hu : Try.prog.underlying 68 = some (.slice (Try.prog.elem 68)) := by rw [hel]; exact Try.underlying68
 obtain ⟨i0, hi, hzz⟩ := Option.map_eq_some_iff.1 info3
 simp only [Prod.mk.injEq] at hzz
 obtain ⟨_, hz1, _⟩ := hzz
 rw [run_slice_h W 68 (some ad) n c hu .i64 m (by omega) (by omega), hel]
 have e0 : ad.add 0 = ad := by simp [Addr.add]
 simp [sizeOf, typeInfo, hi, hz1, sliced, Result.andThen, e0]
theorem cells3 {w : World} {g : Nat} {t : TypeId} {x y z : Value} (h : w.heap[g]? = some (.cells #[x, y, z] t (0, 0))) : (w.cell? ⟨g, 0, none⟩ = some x ∧ w.cell? ⟨g, 1, none⟩ = some y ∧ w.cell? ⟨g, 2, none⟩ = some z) ∧ (w.frozen? ⟨g, 0, none⟩ = false ∧ w.frozen? ⟨g, 1, none⟩ = false ∧ w.frozen? ⟨g, 2, none⟩ = false) :=
 ⟨⟨blk_cell h 0, blk_cell h 1, blk_cell h 2⟩, blk_frozen h 0, blk_frozen h 1, blk_frozen h 2⟩
end Go.Proofs.Ytdinphnljokigaa.P
end

section
namespace Go.Proofs.Ytdinphnljokigaa.P
open Go.RowKit Go.Shelf Go.Proofs.YtdinphnljokigaaW.PrintWords Go.Proofs.YtdinphnljokigaaW.PrintLast Go.Proofs.YtdinphnljokigaaW.PrintMore
attribute [local go_sem] Oper.semAt_some
/-! #### slices.Min -/
theorem rdi_get (l : List Int) {i : Nat} (h : i < l.length) : rd l (i : Int) = l[i] := by
 unfold rd
 rw [Int.toNat_natCast, List.getD_eq_getElem?_getD, List.getElem?_eq_getElem h]
 rfl
theorem rdi_take (l : List Int) {i : Nat} (h : i < l.length) : l.take (i + 1) = l.take i ++ [rd l (i : Int)] := by
 rw [List.take_succ_eq_append_getElem h, rdi_get l h]
theorem min_lt {l : List Int} {m y : Int} (h : m < 0 ↔ ∃ x ∈ l, x < 0) (hy : y < m) : y < 0 ↔ ∃ x ∈ l ++ [y], x < 0 := by
 constructor
 ·intro h0; exact ⟨y, by simp, h0⟩
 ·rintro ⟨z, hz, hz0⟩
  rcases List.mem_append.1 hz with hz | hz
  ·have := h.2 ⟨z, hz, hz0⟩; omega
  ·simp at hz; omega
theorem min_ge {l : List Int} {m y : Int} (h : m < 0 ↔ ∃ x ∈ l, x < 0) (hy : m ≤ y) : m < 0 ↔ ∃ x ∈ l ++ [y], x < 0 := by
 constructor
 ·intro h0; obtain ⟨z, hz, hz0⟩ := h.1 h0; exact ⟨z, by simp [hz], hz0⟩
 ·rintro ⟨z, hz, hz0⟩
  rcases List.mem_append.1 hz with hz | hz
  ·exact h.2 ⟨z, hz, hz0⟩
  ·simp at hz; omega
set_option maxHeartbeats 1000000 in
set_option maxRecDepth 100000 in
theorem min_calls (l : List Int) (hl : l ≠ []) (A : Option Addr) (c : Nat) (W : World) (HC : Aside0 (Kd.C (Kd.int .i64) W A l.length l)) :
  Calls Try.prog 65 #[.slice A l.length c] W fun e w' => (∃ m : Int, e = .returned (.int .i64 m) ∧ (m < 0 ↔ ∃ x ∈ l, x < 0)) ∧ w' = W := by
 have hp : 1 ≤ l.length := List.length_pos_iff.mpr hl
 have hm : l.length ≤ 9223372036854775807 := HC.out.2.1
 obtain ⟨ad, e, hx⟩ := Kd.at_int HC.out 0 (by omega) (by omega)
 subst e
 simp only [show (0 : Int).toNat = 0 from rfl] at hx
 rw [Addr.add_zero'] at hx
 have e1 : ¬ (l.length : Int) < 1 := by omega
 have e2 : (0 : Int) < (l.length : Int) := by omega
 have HT0 := aq_ (rdi_take l (show 0 < l.length by omega))
 clear hl
 go_enter Try.func65, Try.ntmps65
 go_wp2
 go_loopw [3, 4] (fun v3 v4 wr => ∃ (i : Nat) (m : Int), 1 ≤ i ∧ i ≤ l.length ∧ v4 = .int .i64 i ∧ v3 = .int .i64 m ∧ Aside0 (m < 0 ↔ ∃ x ∈ l.take i, x < 0) ∧ wr = W) (fun _ v4 _ => l.length - (intOf v4).toNat)
 case atStart => exact ⟨1, rd l 0, by omega, hp, rfl, rfl, ⟨by have := HT0.out; rw [Nat.zero_add, List.take_zero, List.nil_append] at this; rw [this]; simp⟩, rfl⟩
 case round =>
  obtain ⟨i, m, hi1, hi, rfl, rfl, HM, rfl⟩ := hrel
  by_cases hlt : i < l.length
  ·obtain ⟨ad2, e3, hy⟩ := Kd.at_int HC.out (i : Int) (by omega) (by omega)
   injection e3 with e3
   subst e3
   rw [Int.toNat_natCast] at hy
   have HT := aq_ (rdi_take l hlt)
   obtain ⟨y, hyy⟩ : ∃ y, y = rd l (i : Int) := ⟨_, rfl⟩
   rw [← hyy] at hy HT
   clear hyy
   by_cases hym : y < m
   ·go_wp2
    go_roundw
    case rel => exact ⟨i + 1, y, by omega, by omega, by go_num, by first | rfl | (simp [hym]; done), ⟨by rw [HT.out]; exact min_lt HM.out hym⟩, by first | exact rfl | exact trivial⟩
    case measure => simp [intOf]; omega
   ·have hmy : m ≤ y := by omega
    go_wp2
    go_roundw
    case rel => exact ⟨i + 1, m, by omega, by omega, by go_num, by first | rfl | (simp [hmy]; done), ⟨by rw [HT.out]; exact min_ge HM.out hmy⟩, by first | exact rfl | exact trivial⟩
    case measure => simp [intOf]; omega
  ·obtain rfl : i = l.length := by omega
   go_wp2
   go_ret
   refine ⟨⟨_, rfl, ?_⟩, rfl⟩
   have := HM.out
   rwa [List.take_length] at this
/-! #### the word's closure, slices.Backward -/
set_option maxHeartbeats 400000 in
theorem word_in (F : Fence) (n : Nat) (h27 : F.fn 66) (hro : F.round = none) (x : Int) (w : World) :
  CallsIn F n Try.prog 66 #[.int .i64 x] w fun e w' => e = .returned (.agg #[.int .i64 0, .int .i64 x, .slice none 0 0]) ∧ w' = w.alloc (.cells #[.int .i64 0, .int .i64 x, .slice none 0 0] 32 (0, 0)) := by
 refine callsIn_of_wp Try.func66 rfl h27 ?_ hro
 simp only [Try.ntmps66, List.size_toArray, List.length_cons, List.length_nil, Nat.reduceAdd, Nat.reduceSub, Array.replicate_succ, Array.replicate_zero, List.push_toArray, List.append_toArray, List.nil_append, List.cons_append]
 gi_wp2
 refine bodyPost_ret (results_cell_row rfl _ _ w.heap.size 32 #[.int .i64 0, .int .i64 x, .slice none 0 0] (0, 0) _ rfl (blk_new w _) Try.underlying32 rfl (by kernel_rfl)) rfl ⟨rfl, rfl⟩
set_option maxHeartbeats 400000 in
theorem bw_in (F : Fence) (n : Nat) (h28 : F.fn 67) (hro : F.round = none) (A : Option Addr) (m c : Nat) (w : World) :
  CallsIn F n Try.prog 67 #[.slice A m c] w fun e w' => e = .returned (.func (.func 83) #[] #[.pointer (some ⟨w.heap.size, 0, none⟩)]) ∧ w' = w.alloc (.cells #[.slice A m c] 68 (0, 0)) := by
 refine callsIn_of_wp Try.func67 rfl h28 ?_ hro
 simp only [Try.ntmps67, List.size_toArray, List.length_cons, List.length_nil, Nat.reduceAdd, Nat.reduceSub, Array.replicate_succ, Array.replicate_zero, List.push_toArray, List.append_toArray, List.nil_append, List.cons_append]
 gi_wp2
 go_ret
 exact ⟨rfl, rfl⟩
/-- What has come when k rounds are over, from the back. -/
def bwUpto (l : List Int) (k : Nat) : List (Int × Int) := (List.range k).map fun j => (((l.length - 1 - j : Nat) : Int), l.getD (l.length - 1 - j) 0)
theorem bwUpto_succ (l : List Int) (k : Nat) : bwUpto l (k + 1) = bwUpto l k ++ [(((l.length - 1 - k : Nat) : Int), l.getD (l.length - 1 - k) 0)] := by simp [bwUpto, List.range_succ]
theorem bwUpto_length (l : List Int) (k : Nat) : (bwUpto l k).length = k := by simp [bwUpto]
def KpB (n₀ Bs : Nat) (W W' : World) : Prop := Below n₀ W W' ∧ W'.heap[Bs]? = W.heap[Bs]?
theorem kpB_t {n₀ Bs : Nat} {A B C : World} (h : KpB n₀ Bs A B) (k : KpB n₀ Bs B C) : KpB n₀ Bs A C := ⟨h.1.trans k.1, k.2.trans h.2⟩
theorem kpB_b {n₀ Bs : Nat} {w : World} (hn : n₀ ≤ w.heap.size) (hk : Bs < w.heap.size) (W : World) (l : Nat) (o o' : Obj) (hl : w.heap.size ≤ l) (h : W.heap[l]? = some o) (h1 : o.isCells = false) (h2 : o.isWalk = false) : KpB n₀ Bs W (W.putObj l o') :=
 ⟨belowK_b hn W l o o' hl h h1 h2, World.putObj_heap_other (by omega)⟩
set_option maxRecDepth 100000 in
set_option maxHeartbeats 2000000 in
theorem bw1_in (F : Fence) (n : Nat) (h38 : F.fn 83) (hro : F.round = none) (hn : 1 ≤ n) (lk Bs : Nat) (w0 : World) (A : Option Addr) (c : Nat) (l : List Int) (J Jx : List (Int × Int) → World → Prop)
  (hr0 : Kd.C (Kd.int .i64) w0 A l.length l) (W : World)
  (hY : ∀ pre x W1, J pre W1 → pre.length < l.length → YieldAt F (n - 1) Try.prog lk #[.int .i64 x.1, .int .i64 x.2] W1 fun e W' =>
   (e = .returned (.bool true) ∧ J (pre ++ [x]) W' ∧ KpB w0.heap.size Bs W1 W') ∨ (e = .returned (.bool false) ∧ Jx (pre ++ [x]) W'))
  (hB : Below w0.heap.size w0 W) (hBs : W.heap[Bs]? = some (.cells #[.slice A l.length c] 68 (0, 0))) (h0 : J [] W) :
  CallsIn F n Try.prog 83 #[.func (.yield lk) #[] #[], .pointer (some ⟨Bs, 0, none⟩)] W fun e W' => (∃ v, e = .returned v) ∧
   ((∃ ys, ys = bwUpto l l.length ∧ J ys W') ∨ (∃ pre, True ∧ Jx pre W')) := by
 refine callsIn_of_wp Try.func83 rfl h38 ?_ hro
 simp only [Try.ntmps83, List.size_toArray, List.length_cons, List.length_nil, Nat.reduceAdd, Nat.reduceSub, Array.replicate_succ, Array.replicate_zero, List.push_toArray, List.append_toArray, List.nil_append, List.cons_append]
 have hm : l.length ≤ 9223372036854775807 := hr0.2.1
 have cs0 : W.cell? ⟨Bs, 0, none⟩ = some (.slice A l.length c) := blk_cell hBs 0
 gi_wp2
 gi_loopw [3] (fun v3 wr => ∃ k : Nat, k ≤ l.length ∧ v3 = .int .i64 ((l.length : Int) - 1 - k) ∧ J (bwUpto l k) wr ∧ Below w0.heap.size w0 wr ∧ wr.heap[Bs]? = some (.cells #[.slice A l.length c] 68 (0, 0)))
  (fun v3 _ => (intOf v3 + 1).toNat)
 case atStart => exact ⟨0, Nat.zero_le _, by go_num, h0, hB, hBs⟩
 case round =>
  obtain ⟨k, hk, rfl, hJs, hBw, hBs1⟩ := hrel
  have cs1 : wr.cell? ⟨Bs, 0, none⟩ = some (.slice A l.length c) := blk_cell hBs1 0
  by_cases hlt : k < l.length
  ·obtain ⟨m, hmm⟩ : ∃ m : Nat, m = l.length - 1 - k := ⟨_, rfl⟩
   have e3 : (l.length : Int) - 1 - k = (m : Int) := by omega
   have hml : m < l.length := by omega
   obtain ⟨ad, e1, hx⟩ := Kd.at_int hr0 (m : Int) (by omega) (by omega)
   subst e1
   replace hx := (hBw.cell (World.block_lt_of_cell? w0 _ hx)).trans hx
   rw [Int.toNat_natCast] at hx
   have hgd : rd l (m : Int) = l.getD m 0 := by unfold rd; rw [Int.toNat_natCast]
   rw [hgd] at hx
   have hs := bwUpto_succ l k
   rw [← hmm] at hs
   obtain ⟨x, hxx⟩ : ∃ x, x = l.getD m 0 := ⟨_, rfl⟩
   rw [← hxx] at hx hs
   obtain ⟨fn, tmps, assign, body, hy, hR⟩ := hY _ ((m : Int), x) wr hJs (by rw [bwUpto_length]; exact hlt)
   dsimp only at hy
   have HS := aq_ hs
   clear hs hgd hxx
   rw [e3]
   have hm0 : (0 : Int) ≤ (m : Int) := by omega
   have HMM := aq_ hmm
   have HE3 := aq_ e3
   clear hmm e3
   gi_wp2
   refine hR.mono ?_
   rintro e W3 (⟨rfl, hJ3, hk3⟩ | ⟨rfl, hJx3⟩)
   ·gi_wp2
    go_roundw
    case rel => exact ⟨k + 1, by omega, by have h_ := HE3.out; first | (simp; omega) | (simp; done) | go_num, by rw [HS.out]; exact hJ3, hBw.trans hk3.1, hk3.2.trans hBs1⟩
    case measure => have h_ := HE3.out; first | (simp [intOf]; omega) | (simp [intOf]; done)
   ·gi_wp2
    refine bodyPost_ret (results_none rfl _ _ _) rfl ?_
    exact ⟨⟨_, rfl⟩, .inr ⟨_, trivial, hJx3⟩⟩
  ·obtain rfl : k = l.length := by omega
   rw [show (l.length : Int) - 1 - (l.length : Int) = -1 by omega]
   gi_wp2
   go_end0
   exact ⟨⟨_, rfl⟩, .inl ⟨_, rfl, hJs⟩⟩
theorem bw_stops (F : Fence) (n : Nat) (h38 : F.fn 83) (hro : F.round = none) (hn : 1 ≤ n) (Bs : Nat) (w0 : World) (A : Option Addr) (c : Nat) (l : List Int) (hr0 : Kd.C (Kd.int .i64) w0 A l.length l) (w : World)
  (hB : Below w0.heap.size w0 w) (hBs : w.heap[Bs]? = some (.cells #[.slice A l.length c] 68 (0, 0))) :
  SeqStopsK F n Try.prog 83 #[.pointer (some ⟨Bs, 0, none⟩)] (fun x : Int × Int => #[.int .i64 x.1, .int .i64 x.2]) (KpB w0.heap.size Bs) (fun ys => ys = bwUpto l l.length) (fun _ => True) l.length w := fun lk J Jx W hW _ _ hY h0 =>
 bw1_in F n h38 hro hn lk Bs w0 A c l J Jx hr0 W hY (hB.trans (hW.mono hB.size)) ((hW.block Bs (blk_lt hBs)).trans hBs) h0
/-- A part of a body that does not panic: of the ways out, the plain one alone. -/
theorem shut_post {F : Fence} {n : Nat} {P : Program} {c : Code} {K Post : Act → World → Prop} {Q : Exit → Act → World → Prop} {a : Act} {w : World} (h : c.wpIn F n P (Exit.then Post (fun _ _ _ => False)) a w) (hk : ∀ a w, Post a w → K a w) : c.wpIn F n P (Exit.then K Q) a w :=
 wpIn_mono h (by intro e a w h; cases e <;> first | exact hk _ _ h | exact h.elim)
/-- The pairs, laid one on the other. -/
def pile (n : Int) (pre : List (Int × Int)) : S24 := pre.foldl (fun acc x => ⟨2, 0, [word x.2, acc]⟩) (word n)
theorem pile_snoc (n : Int) (pre : List (Int × Int)) (x : Int × Int) : pile n (pre ++ [x]) = ⟨2, 0, [word x.2, pile n pre]⟩ := by simp [pile]
theorem pile_foldr (n : Int) (pre : List (Int × Int)) : pile n pre = (pre.map Prod.snd).foldl (fun acc y => ⟨2, 0, [word y, acc]⟩) (word n) := by
 unfold pile
 rw [List.foldl_map]
theorem bw_all (li : List Int) : (bwUpto li li.length).map Prod.snd = li.reverse := by
 apply List.ext_getElem
 ·simp [bwUpto]
 ·intro i h1 h2
  simp only [bwUpto, List.map_map, List.length_map, List.length_range] at h1
  simp only [bwUpto, List.map_map, List.getElem_map, List.getElem_range, Function.comp, List.getElem_reverse]
  rw [List.getD_eq_getElem?_getD, List.getElem?_eq_getElem (by omega)]
  rfl
theorem foldr_row (li : List Int) (n : Int) : li.foldr (fun y acc => (⟨2, 0, [word y, acc]⟩ : S24)) (word n) = rowT (li ++ [n]) := by
 induction li with
 | nil => rfl
 | cons y li ih =>
  rw [List.foldr_cons, ih]
  cases li with
  | nil => rfl
  | cons z li => rfl
theorem pile_all (li : List Int) (n : Int) : pile n (bwUpto li li.length) = rowT (li ++ [n]) := by
 rw [pile_foldr, bw_all, List.foldl_reverse, foldr_row]
/-- A tree's row whose blocks are cells, none of them the box. -/
def HasV (n0 B5 : Nat) (v : Value) (xs : List S24) (W : World) : Prop := ∃ ok : Nat → Prop, (∀ k, ok k → n0 < k ∧ k ≠ B5 ∧ ∃ o, W.heap[k]? = some o ∧ o.isCells = true) ∧ Kd.V k24 32 W n0 ok v xs
def PileI (n0 B5 : Nat) (n : Int) (pre : List (Int × Int)) (W : World) : Prop := ∃ v2, W.heap[B5]? = some (.cells #[.int .i64 (pile n pre).f0, .int .i64 (pile n pre).f1, v2] 32 (0, 0)) ∧ HasV n0 B5 v2 (pile n pre).f2 W
theorem pileI_own (n0 B5 : Nat) (n : Int) (B : Nat) : OwnFrom B (PileI n0 B5 n) := by
 intro pre W W' row hs hg hr
 obtain ⟨v2, hb, ok, hok, hV⟩ := hs
 have nr : ∀ k o, W.heap[k]? = some o → o.isCells = true → some k ≠ row := by
  intro k o h1 h2 e
  obtain ⟨_, o', h3, h4⟩ := hr k e.symm
  rw [h1] at h3
  injection h3 with h3
  rw [← h3, h2] at h4
  cases h4
 refine ⟨v2, (hg.block B5 (blk_lt hb) (nr _ _ hb rfl)).trans hb, ok, fun k hk => ?_, Kd.V_grown hV hg (fun k hk => ?_)⟩
 ·obtain ⟨h1, h2, o, h3, h4⟩ := hok k hk
  exact ⟨h1, h2, o, (hg.block k (blk_lt h3) (nr _ _ h3 h4)).trans h3, h4⟩
 ·obtain ⟨h1, h2, o, h3, h4⟩ := hok k hk
  exact nr _ _ h3 h4
theorem pileI_snoc {n0 B5 : Nat} {n : Int} {pre : List (Int × Int)} {x : Int × Int} {W : World} {v2 : Value} (hn : n0 ≤ B5) (hb : W.heap[B5]? = some (.cells #[.int .i64 (pile n pre).f0, .int .i64 (pile n pre).f1, v2] 32 (0, 0))) (hv : HasV n0 B5 v2 (pile n pre).f2 W) {A G : Obj} (hG : G = .cells #[.int .i64 0, .int .i64 x.2, .slice none 0 0, .int .i64 (pile n pre).f0, .int .i64 (pile n pre).f1, v2] 32 (0, 0)) :
  PileI n0 B5 n (pre ++ [x]) ((((((W.alloc A).alloc G).setCell ⟨B5, 0, none⟩ (.int .i64 2)).setCell ⟨B5, 1, none⟩ (.int .i64 0)).setCell ⟨B5, 2, none⟩ (.slice (some ⟨W.heap.size + 1, 0, none⟩) 2 2)).drew) := by
 obtain ⟨ok, hok, hV⟩ := hv
 have hlt := blk_lt hb
 have hs1 : (W.alloc A).heap.size = W.heap.size + 1 := Array.size_push _
 have g0 : ((W.alloc A).alloc G).heap[W.heap.size + 1]? = some G := by have z := blk_new (W.alloc A) G; rw [hs1] at z; exact z
 subst hG
 have hne : W.heap.size + 1 ≠ B5 := by omega
 have b0 := blk_alloc (blk_alloc hb A) (.cells #[.int .i64 0, .int .i64 x.2, .slice none 0 0, .int .i64 (pile n pre).f0, .int .i64 (pile n pre).f1, v2] 32 (0, 0))
 have b1 := blk_put (blk_put (blk_put b0 0 (.int .i64 2) rfl) 1 (.int .i64 0) rfl) 2 (.slice (some ⟨W.heap.size + 1, 0, none⟩) 2 2) rfl
 have g1 := blk_far (blk_far (blk_far g0 hne (p := ⟨B5, 0, none⟩) (.int .i64 2)) hne (p := ⟨B5, 1, none⟩) (.int .i64 0)) hne (p := ⟨B5, 2, none⟩) (.slice (some ⟨W.heap.size + 1, 0, none⟩) 2 2)
 have hk : ∀ k, ok k → k ≠ B5 := fun k h => (hok k h).2.1
 have V1 := Kd.V_drew (Kd.V_far (p := ⟨B5, 2, none⟩) (Kd.V_far (p := ⟨B5, 1, none⟩) (Kd.V_far (p := ⟨B5, 0, none⟩) (Kd.V_alloc (Kd.V_alloc hV A) (.cells #[.int .i64 0, .int .i64 x.2, .slice none 0 0, .int .i64 (pile n pre).f0, .int .i64 (pile n pre).f1, v2] 32 (0, 0))) hk (.int .i64 2)) hk (.int .i64 0)) hk (.slice (some ⟨W.heap.size + 1, 0, none⟩) 2 2))
 unfold PileI
 rw [pile_snoc]
 refine ⟨_, b1, fun k => ok k ∨ k = W.heap.size + 1, ?_, ?_⟩
 ·rintro k (h | rfl)
  ·obtain ⟨h1, h2, o, h3, h4⟩ := hok k h
   exact ⟨h1, h2, o, (Below.heap_setCell _ ⟨B5, 2, none⟩ _ k h2).trans ((Below.heap_setCell _ ⟨B5, 1, none⟩ _ k h2).trans ((Below.heap_setCell _ ⟨B5, 0, none⟩ _ k h2).trans (blk_alloc (blk_alloc h3 _) _))), h4⟩
  ·exact ⟨by omega, hne, _, g1, rfl⟩
 ·exact V_two (a := word x.2) (b := pile n pre) g1 (.inr rfl) (FK_word _ _ _) (FK_of_V (base := n0) (Kd.V_mono V1 (fun k h => .inl h)))
theorem own_b {β : Type} (B : Nat) (k : β → Nat) (o : β → Obj) (ho : ∀ s, (o s).isCells = true) : OwnFrom B (fun s W => W.heap[k s]? = some (o s)) := by
 intro s W W' row hs hg hr
 refine (hg.block (k s) (blk_lt hs) ?_).trans hs
 intro e
 obtain ⟨_, o', h1, h2⟩ := hr (k s) e.symm
 rw [hs] at h1
 injection h1 with h1
 rw [← h1, ho s] at h2
 cases h2
end Go.Proofs.Ytdinphnljokigaa.P
end
