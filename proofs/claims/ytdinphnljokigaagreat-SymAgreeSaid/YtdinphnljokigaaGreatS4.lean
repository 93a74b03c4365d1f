/- What LawSymAgree rests on, part 4: several texts put together. -/
import Derived.Test.YtdinphnljokigaaGreatS0
import Derived.Test.YtdinphnljokigaaGreatS2
import Derived.Test.YtdinphnljokigaaGreatProg
import Derived.Below
import Derived.Deep.Draws
import Derived.Deep.AppendLies
import Derived.Maps.AppendAt
import Derived.OwnWalk
import Derived.Laws.BytesArg
import Derived.Laws.MakeOwn
import Derived.Laws.OwnMore
import Derived.Deep.OwnRows
import Derived.Tactics
import Derived.Lib.ConvBytes
import Derived.Laws.Slices
import Derived.WalkKit
import Derived.KernelRfl
import Derived.RowKit3
import Derived.Deep.LoopGhost
import Derived.Deep.QuietTactic
import Derived.BigQuiet
import Derived.WideLaws
import Derived.Deep.DeepCutAuto
import Derived.Deep.CutBlock
import Derived.Deep.RegionHeld3
import Derived.Laws.Rows
import Derived.Lib.AppendStr
import Derived.ArgAppend
import Derived.Laws.IdiomCopy
import Derived.OrdersHeld
import Derived.Laws.BitsLemmas
import Derived.RowKit
import Derived.Test.YtdinphnljokigaaGreatS1
import Derived.Test.YtdinphnljokigaaGreatS3
import Derived.Handy
import Derived.RangeFuncBox
import Derived.Laws.EntriesVeiled
set_option linter.unusedVariables false
set_option linter.unnecessarySimpa false
set_option linter.unusedSimpArgs false
set_option maxRecDepth 100000
section
namespace Go.Proofs.YtdinphnljokigaaGreat.P
open Go.RowKit Go.Proofs.YtdinphnljokigaaGreatW.PrintWords
theorem w64 {x : Int} (h0 : -9223372036854775808 ≤ x) (h1 : x < 9223372036854775808) : wrap64 x = x := by
 unfold wrap64
 omega
theorem Ev.const {α : Type} {g : Option α} {r : α} (h : g = some r) : Ev (fun _ => g) r := ⟨0, fun _ _ => h⟩
end Go.Proofs.YtdinphnljokigaaGreat.P
end

section
namespace Go.Proofs.YtdinphnljokigaaGreat.P
open Go.RowKit Go.Lib Go.Proofs.YtdinphnljokigaaGreatW.PrintWords Go.Proofs.YtdinphnljokigaaGreatW.PrintLast Go.Proofs.YtdinphnljokigaaGreatW.PrintMore
theorem info3 : (Tryz.prog.info? 3).map (fun i => (i.zero, i.size, i.bytes)) = some (some (.int .i64 0), 1, 8) := by kernel_rfl
theorem info24 : (Tryz.prog.info? 36).map (fun i => (i.zero, i.size, i.bytes)) = some (some (.agg #[(.int .i64 0), (.int .i64 0), (.slice none 0 0)]), 3, 40) := by kernel_rfl
-- the values' own types
structure S24 where
 f0 : Int
 f1 : Int
 f2 : (List S24)
def z24 : S24 := ⟨(0 : Int), (0 : Int), ([] : List S24)⟩
def F24 (d : Kd S24) : Kd S24 := Kd.iso (Kd.pair (Kd.int .i64) (Kd.pair (Kd.int .i64) (Kd.slice 36 d))) (fun x : S24 => (x.f0, x.f1, x.f2))
theorem mono24 : Kd.Mono F24 := Kd.mono_iso _ (Kd.mono_pair (Kd.mono_const _) (Kd.mono_pair (Kd.mono_const _) (Kd.mono_slice 36 Kd.mono_id)))
theorem sub24 : Kd.Sub F24 [36] := Kd.sub_iso _ (Kd.sub_pair (Kd.sub_const _ (by decide)) (Kd.sub_pair (Kd.sub_const _ (by decide)) (Kd.sub_slice 36 (by decide) Kd.sub_id)))
theorem sz24 : ∀ n, (Kd.upto F24 3 [36] n).sz = 3 := Kd.upto_sz (fun _ => rfl)
def k24 : Kd S24 := Kd.fix F24 3 [36] sz24 (Kd.upto_E sub24)
theorem k24_heap : Kd.Heap k24 := Kd.heap_fix (fun _ h_ => Kd.heap_iso _ (Kd.heap_pair (Kd.heap_int .i64) (Kd.heap_pair (Kd.heap_int .i64) (Kd.heap_slice 36 h_))))
theorem k24_open {w : World} {x : S24} {cs : List Value} (h : k24.K w x cs) : ∃ A2 c2, cs = [.int .i64 x.f0, .int .i64 x.f1, .slice A2 x.f2.length c2] ∧ x.f2.length ≤ c2 ∧ k24.C w A2 x.f2.length x.f2 := by
 obtain ⟨n, h⟩ := h
 cases n with
 | zero => exact h.elim
 | succ n =>
  obtain ⟨_, _, rfl, rfl, ⟨_, _, rfl, rfl, ⟨A2, c2, rfl, l2, g2⟩⟩⟩ := h
  exact ⟨A2, c2, rfl, l2, Kd.fix_C g2⟩
theorem k24_mk (w : World) (x : S24) {A2 : Option Addr} {c2 : Nat} (l2 : x.f2.length ≤ c2) (g2 : k24.C w A2 x.f2.length x.f2) : k24.K w x [.int .i64 x.f0, .int .i64 x.f1, .slice A2 x.f2.length c2] := by
 obtain ⟨n2, q2⟩ := Kd.fix_C_back mono24 g2
 have r2 := Kd.upto_C_le mono24 sz24 (show n2 ≤ n2 by omega) q2
 exact ⟨n2 + 1, ⟨[.int .i64 x.f0], [.int .i64 x.f1, .slice A2 x.f2.length c2], rfl, rfl, ⟨[.int .i64 x.f1], [.slice A2 x.f2.length c2], rfl, rfl, ⟨A2, c2, rfl, l2, r2⟩⟩⟩⟩
theorem k24_openF {W : World} {ok : Nat → Prop} {x : S24} {cs : List Value} (h : Kd.FK k24 W ok x cs) : ∃ A2 c2, cs = [.int .i64 x.f0, .int .i64 x.f1, .slice A2 x.f2.length c2] ∧ x.f2.length ≤ c2 ∧ Kd.F k24 W ok A2 x.f2.length x.f2 := by
 obtain ⟨A2, c2, rfl, l2, _⟩ := k24_open (Kd.FK_now h)
 exact ⟨A2, c2, rfl, l2, (fun W' hW => by obtain ⟨A2_, c2_, he, l2_, g2_⟩ := k24_open (h W' hW); injection (Option.some.inj (show some (Value.slice A2 x.f2.length c2) = some (Value.slice A2_ x.f2.length c2_) from congrArg (fun l => l[2]?) he)) with ha_ _ _; rw [ha_]; exact g2_)⟩
theorem k24_mkF (W : World) (ok : Nat → Prop) (x : S24) {A2 : Option Addr} {c2 : Nat} (l2 : x.f2.length ≤ c2) (g2 : Kd.F k24 W ok A2 x.f2.length x.f2) : Kd.FK k24 W ok x [.int .i64 x.f0, .int .i64 x.f1, .slice A2 x.f2.length c2] := fun W2 hW => k24_mk W2 x l2 (g2 W2 hW)
def rd_T24 (xs : List S24) (i : Int) : S24 := xs.getD i.toNat z24
theorem at_T24 {w : World} {A : Option Addr} {n : Nat} {xs : List S24} (h : Kd.C k24 w A n xs) (i : Int) (h0 : 0 ≤ i) (h1 : i < n) : ∃ ad A2 c2, A = some ad ∧ w.cell? (ad.add (i.toNat * 3)) = some (.int .i64 (rd_T24 xs i).f0) ∧ w.cell? ⟨(ad.add (i.toNat * 3)).block, (ad.add (i.toNat * 3)).off + 1, none⟩ = some (.int .i64 (rd_T24 xs i).f1) ∧ w.cell? ⟨(ad.add (i.toNat * 3)).block, (ad.add (i.toNat * 3)).off + 2, none⟩ = some (.slice A2 (rd_T24 xs i).f2.length c2) ∧ (rd_T24 xs i).f2.length ≤ c2 ∧ k24.C w A2 (rd_T24 xs i).f2.length (rd_T24 xs i).f2 := by
 obtain ⟨ad, c, e, _, hK, hc0⟩ := Kd.C_get h z24 i h0 h1
 have hc : ∀ j u, c[j]? = some u → w.cell? (ad.add (i.toNat * 3 + j)) = some u := hc0
 obtain ⟨A2, c2, rfl, l2, g2⟩ := k24_open hK
 exact ⟨ad, A2, c2, e, hc 0 _ rfl, by rw [← add_field _ _ 1 (by omega)]; exact hc 1 _ rfl, by rw [← add_field _ _ 2 (by omega)]; exact hc 2 _ rfl, l2, g2⟩
end Go.Proofs.YtdinphnljokigaaGreat.P
end

section
namespace Go.Proofs.YtdinphnljokigaaGreat.P
open Go.RowKit Go.Proofs.YtdinphnljokigaaGreatW.PrintWords Go.Proofs.YtdinphnljokigaaGreatW.PrintLast Go.Proofs.YtdinphnljokigaaGreatW.PrintMore
mutual
def tsize : S24 → Nat
 | ⟨_, _, l⟩ => lsize l + 1
def lsize : List S24 → Nat
 | [] => 0
 | x :: l => tsize x + lsize l
end
mutual
def foldT {σ : Type} (g : σ → S24 → Int → σ) (s : σ) (x : S24) (d : Int) : σ := match x with
 | ⟨a, b, l⟩ => foldL g (g s ⟨a, b, l⟩ d) l (wrap64 (d + 1))
def foldL {σ : Type} (g : σ → S24 → Int → σ) (s : σ) (l : List S24) (d : Int) : σ := match l with
 | [] => s
 | x :: l => foldL g (foldT g s x d) l d
end
theorem foldT_eq {σ : Type} (g : σ → S24 → Int → σ) (s : σ) (x : S24) (d : Int) : foldT g s x d = foldL g (g s x d) x.f2 (wrap64 (d + 1)) := by
 cases x; rw [foldT]
theorem foldL_append {σ : Type} (g : σ → S24 → Int → σ) (d : Int) : ∀ (l k : List S24) (s : σ), foldL g s (l ++ k) d = foldL g (foldL g s l d) k d
 | [], k, s => by simp [foldL]
 | x :: l, k, s => by simp only [List.cons_append, foldL]; exact foldL_append g d l k _
theorem foldL_snoc {σ : Type} (g : σ → S24 → Int → σ) (s : σ) (l : List S24) (x : S24) (d : Int) : foldL g s (l ++ [x]) d = foldT g (foldL g s l d) x d := by
 rw [foldL_append]; simp [foldL]
theorem tsize_eq (x : S24) : tsize x = lsize x.f2 + 1 := by cases x; rw [tsize]
theorem lsize_mem : ∀ (l : List S24) (x : S24), x ∈ l → tsize x ≤ lsize l
 | [], _, h => by simp at h
 | y :: l, x, h => by
  rw [lsize]
  rcases List.mem_cons.1 h with rfl | h
  ·omega
  ·have := lsize_mem l x h; omega
theorem rdT_mem (l : List S24) {i : Nat} (h : i < l.length) : rd_T24 l (i : Int) ∈ l := by
 unfold rd_T24
 rw [Int.toNat_natCast, List.getD_eq_getElem?_getD, List.getElem?_eq_getElem h]
 exact List.getElem_mem h
theorem rdT_get (l : List S24) {i : Nat} (h : i < l.length) : rd_T24 l (i : Int) = l[i] := by
 unfold rd_T24
 rw [Int.toNat_natCast, List.getD_eq_getElem?_getD, List.getElem?_eq_getElem h]
 rfl
theorem rdT_take (l : List S24) {i : Nat} (h : i < l.length) : l.take (i + 1) = l.take i ++ [rd_T24 l i] := by
 rw [List.take_succ_eq_append_getElem h, rdT_get l h]
theorem rdT_size (x : S24) {i : Nat} (h : i < x.f2.length) : tsize (rd_T24 x.f2 i) < tsize x := by
 have := lsize_mem x.f2 _ (rdT_mem x.f2 h)
 rw [tsize_eq x]; omega
theorem blk_alloc_cell {W : World} {g : Nat} {v : Value} {t : TypeId} (h : W.heap[g]? = some (.cells #[v] t (0, 0))) (o : Obj) : (W.alloc o).cell? ⟨g, 0, none⟩ = some v := blk_cell (blk_alloc h o) 0
theorem alloc_far {W : World} {a : Addr} {v : Value} (h : W.cell? a = some v) (o : Obj) : (W.alloc o).cell? a = some v := by
 have hb := World.block_lt_of_cell? W a h
 have e : (W.alloc o).heap[a.block]? = W.heap[a.block]? := Below.heap_alloc W o a.block hb
 exact (World.cell?_of_block e).trans h
theorem three_blocks (w : World) (o1 o2 o3 : Obj) : (((w.alloc o1).alloc o2).alloc o3).heap[w.heap.size + 1]? = some o2 ∧ (((w.alloc o1).alloc o2).alloc o3).heap[w.heap.size + 1 + 1]? = some o3 := by
 have s1 : (w.alloc o1).heap.size = w.heap.size + 1 := Array.size_push _
 have s2 : ((w.alloc o1).alloc o2).heap.size = w.heap.size + 1 + 1 := (Array.size_push _).trans (by rw [s1])
 have b2 := World.alloc_heap_new (w.alloc o1) o2
 have b3 := World.alloc_heap_new ((w.alloc o1).alloc o2) o3
 rw [s1] at b2
 rw [s2] at b3
 exact ⟨(Below.heap_alloc _ _ _ (by omega)).trans b2, b3⟩
end Go.Proofs.YtdinphnljokigaaGreat.P
end
