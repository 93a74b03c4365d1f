/- Plain words about trees: size, folds over all nodes. -/
import Derived.Test.YtfonjmggalkbjaaPx0
import Derived.RangeFuncBox
import Derived.Laws.EntriesVeiled
namespace Go.Proofs.Ytfonjmggalkbjaa.P
open Go.RowKit Go.Proofs.YtfonjmggalkbjaaW.PrintWords Go.Proofs.YtfonjmggalkbjaaW.PrintLast Go.Proofs.YtfonjmggalkbjaaW.PrintMore
set_option linter.unusedVariables false
set_option linter.unusedSimpArgs false
mutual
def tsize : S24 → Nat
  | ⟨_, _, l⟩ => lsize l + 1
def lsize : List S24 → Nat
  | [] => 0
  | x :: l => tsize x + lsize l
end
mutual
def foldT {σ : Type} (g : σ → S24 → Int → σ) (s : σ) (x : S24) (d : Int) : σ := match x with
  | ⟨a, b, l⟩ => foldL g (g s ⟨a, b, l⟩ d) l (wrap64 (d + 1))
def foldL {σ : Type} (g : σ → S24 → Int → σ) (s : σ) (l : List S24) (d : Int) : σ := match l with
  | [] => s
  | x :: l => foldL g (foldT g s x d) l d
end
theorem foldT_eq {σ : Type} (g : σ → S24 → Int → σ) (s : σ) (x : S24) (d : Int) : foldT g s x d = foldL g (g s x d) x.f2 (wrap64 (d + 1)) := by
  cases x; rw [foldT]
theorem foldL_append {σ : Type} (g : σ → S24 → Int → σ) (d : Int) : ∀ (l k : List S24) (s : σ), foldL g s (l ++ k) d = foldL g (foldL g s l d) k d
  | [], k, s => by simp [foldL]
  | x :: l, k, s => by simp only [List.cons_append, foldL]; exact foldL_append g d l k _
theorem foldL_snoc {σ : Type} (g : σ → S24 → Int → σ) (s : σ) (l : List S24) (x : S24) (d : Int) : foldL g s (l ++ [x]) d = foldT g (foldL g s l d) x d := by
  rw [foldL_append]; simp [foldL]
theorem tsize_eq (x : S24) : tsize x = lsize x.f2 + 1 := by cases x; rw [tsize]
theorem lsize_mem : ∀ (l : List S24) (x : S24), x ∈ l → tsize x ≤ lsize l
  | [], _, h => by simp at h
  | y :: l, x, h => by
    rw [lsize]
    rcases List.mem_cons.1 h with rfl | h
    · omega
    · have := lsize_mem l x h; omega
theorem rdT_mem (l : List S24) {i : Nat} (h : i < l.length) : rd_T24 l (i : Int) ∈ l := by
  unfold rd_T24
  rw [Int.toNat_natCast, List.getD_eq_getElem?_getD, List.getElem?_eq_getElem h]
  exact List.getElem_mem h
theorem rdT_get (l : List S24) {i : Nat} (h : i < l.length) : rd_T24 l (i : Int) = l[i] := by
  unfold rd_T24
  rw [Int.toNat_natCast, List.getD_eq_getElem?_getD, List.getElem?_eq_getElem h]
  rfl
theorem rdT_take (l : List S24) {i : Nat} (h : i < l.length) : l.take (i + 1) = l.take i ++ [rd_T24 l i] := by
  rw [List.take_succ_eq_append_getElem h, rdT_get l h]
theorem rdT_size (x : S24) {i : Nat} (h : i < x.f2.length) : tsize (rd_T24 x.f2 i) < tsize x := by
  have := lsize_mem x.f2 _ (rdT_mem x.f2 h)
  rw [tsize_eq x]; omega
/-- A cell of an elder block, behind a new one. -/
theorem blk_alloc_cell {W : World} {g : Nat} {v : Value} {t : TypeId} (h : W.heap[g]? = some (.cells #[v] t (0, 0))) (o : Obj) : (W.alloc o).cell? ⟨g, 0, none⟩ = some v := blk_cell (blk_alloc h o) 0
theorem alloc_far {W : World} {a : Addr} {v : Value} (h : W.cell? a = some v) (o : Obj) : (W.alloc o).cell? a = some v := by
  have hb := World.block_lt_of_cell? W a h
  have e : (W.alloc o).heap[a.block]? = W.heap[a.block]? := Below.heap_alloc W o a.block hb
  exact (World.cell?_of_block e).trans h
theorem three_blocks (w : World) (o1 o2 o3 : Obj) : (((w.alloc o1).alloc o2).alloc o3).heap[w.heap.size + 1]? = some o2 ∧ (((w.alloc o1).alloc o2).alloc o3).heap[w.heap.size + 1 + 1]? = some o3 := by
  have s1 : (w.alloc o1).heap.size = w.heap.size + 1 := Array.size_push _
  have s2 : ((w.alloc o1).alloc o2).heap.size = w.heap.size + 1 + 1 := (Array.size_push _).trans (by rw [s1])
  have b2 := World.alloc_heap_new (w.alloc o1) o2
  have b3 := World.alloc_heap_new ((w.alloc o1).alloc o2) o3
  rw [s1] at b2
  rw [s2] at b3
  exact ⟨(Below.heap_alloc _ _ _ (by omega)).trans b2, b3⟩
end Go.Proofs.Ytfonjmggalkbjaa.P
