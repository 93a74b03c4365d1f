/- By hand: a range over a function whose iterator turns a box of its own between two rounds (the kit's laws let it turn walks alone). -/
import Derived.RangeFuncNested
import Derived.RangeFuncBound
import Derived.RangeFuncCalls
import Derived.RangeFuncLeaves
import Derived.RangeFuncBox
import Derived.Maps.AppendAt
namespace Go
open Go.RowKit
variable {F : Fence} {n : Nat} {P : Program}
theorem blk_lt' {w : World} {g : Nat} {o : Obj} (h : w.heap[g]? = some o) : g < w.heap.size := (Array.getElem?_eq_some_iff.1 h).1
/-- What the caller says of the world abides the iterator's box, and the book-keeping's blocks. -/
def BoxOwn {β : Type} (B Bs : Nat) (I : β → World → Prop) : Prop :=
  ∀ s W W' row, I s W → W.grownBy W' row → (∀ r, row = some r → r = Bs ∨ (B ≤ r ∧ ∃ o : Obj, W.heap[r]? = some o ∧ o.isCells = false)) → I s W'
/-- The iterator's contract: no round leaves. -/
def SeqBox {α : Type} (F : Fence) (n : Nat) (P : Program) (g : Nat) (lb : Array Value) (encs : α → Array Value) (Kp : World → World → Prop) (S : List α → Prop) (N Bs : Nat) (w : World) : Prop :=
  ∀ (l : Nat) (J : List α → World → Prop) (W : World), Below w.heap.size w W → (∀ s A B row, J s A → A.grownBy B row → (∀ r, row = some r → r = Bs) → J s B) →
    (∀ pre x W1, J pre W1 → pre.length < N → YieldAt F (n - 1) P l (encs x) W1 fun e W' => e = .returned (.bool true) ∧ J (pre ++ [x]) W' ∧ Kp W1 W') →
    J [] W →
    CallsIn F n P g (#[.func (.yield l) #[] #[]] ++ lb) W fun e W' => (∃ v, e = .returned v) ∧ ∃ xs, S xs ∧ J xs W'
theorem wpIn_rangeFunc_box {α : Type} {g : Operand} {ps : Array Tmp} {assign body : Code} {Q : Exit → Act → World → Prop} {a : Act} {w : World}
    (hro : F.round = none) (h1 : 1 ≤ n) {gf : Nat} {lb : Array Value} (hg : a.eval g = .func (.func gf) #[] lb) (hFg : F.fn gf) (eg : ∀ args w, (callFunc gf args).run P w = .ok (.enter gf args) w)
    {encs : α → Array Value} {Kp : World → World → Prop} {S : List α → Prop} {N Bs : Nat} {w0 : World} (hseq : SeqBox F (n - 1) P gf lb encs Kp S N Bs w0) (hBs : Bs < w.heap.size)
    (hKt : ∀ {A B C : World}, Kp A B → Kp B C → Kp A C) (hKb : ∀ (W : World) (l : Nat) (o o' : Obj), w.heap.size ≤ l → W.heap[l]? = some o → o.isCells = false → o.isWalk = false → Kp W (W.putObj l o')) (hb0 : Below w0.heap.size w0 w) (hps : ∀ x, (encs x).size = ps.size)
    (I : List α → World → Prop) (hI : BoxOwn w.heap.size Bs I) (h0 : I [] w) (Ax : α → Act → World → Prop) (hAx : ∀ x a' W l o o', Ax x a' W → w.heap.size ≤ l → W.heap[l]? = some o → o.isCells = false → Ax x a' (W.putObj l o'))
    (hassign : ∀ (l : Nat) (pre : List α) (x : α) (W : World), I pre W →
      assign.wpIn (F.inRound l) (n - 1 - 1) P (Exit.then (fun a' W' => KeepsFrom w.heap.size W W' ∧ Kp W W' ∧ I pre W' ∧ Ax x a' W') (fun _ _ _ => False)) { tmps := (ps.zip (encs x)).foldl (fun t (p, v) => t.setIfInBounds p v) a.tmps, defers := [] } W)
    (hbody : ∀ (l : Nat) (pre : List α) (x : α) (a' : Act) (W : World), I pre W → Ax x a' W → pre.length < N → body.wpIn (F.inRound l) (n - 1 - 1) P (Exit.then (fun _ W' => KeepsFrom w.heap.size W W' ∧ Kp W W' ∧ I (pre ++ [x]) W') (fun _ _ _ => False)) a' W)
    (hdone : ∀ (D : Nat) (xs : List α) (W : World), w.heap.size ≤ D → S xs → I xs W → W.heap[D]? = some (.deferred (some [])) → Q .normal { a with defers := { target := .collected D, args := #[] } :: a.defers } W) :
    (Code.rangeFunc g ps assign body).wpIn F n P Q a w := by
  refine wpIn_rangeFunc ?_
  intro fn hfn
  rw [hro]
  obtain ⟨rec, hrec⟩ : ∃ rec : LoopState → Option Code → Loop, rec = fun st pe => { state := st, pending := pe, fn, tmps := a.tmps, params := ps, assign, body, defers := w.heap.size } := ⟨_, rfl⟩
  obtain ⟨W1, hW1⟩ : ∃ W1, (w.alloc (.deferred (some []))).alloc (.loop (rec .ready none)) = W1 := ⟨_, rfl⟩
  have s1 : (w.alloc (.deferred (some []))).heap.size = w.heap.size + 1 := Array.size_push _
  have hL1 : W1.heap[w.heap.size + 1]? = some (.loop (rec .ready none)) := by
    have z := World.alloc_heap_new (w.alloc (.deferred (some []))) (.loop (rec .ready none))
    rw [s1, hW1] at z
    exact z
  have hK1 : W1.heap[w.heap.size]? = some (.deferred (some [])) := by
    rw [← hW1]
    exact (Below.heap_alloc _ _ _ (by omega)).trans (World.alloc_heap_new w _)
  have hg0 : w.grownBy W1 none := by
    rw [← hW1]
    exact World.grownBy.trans (World.grownBy_alloc w _ none) (World.grownBy_alloc _ _ none)
  have hI1 : I [] W1 := hI [] w W1 none h0 hg0 (fun r e => by cases e)
  have hb1 : Below w0.heap.size w0 W1 := by
    rw [← hW1]
    exact hb0.trans (((Below.refl w.heap.size w).alloc (Nat.le_refl _) _ |>.alloc (by omega) _).mono hb0.size)
  have put : ∀ (pre : List α) (W : World) (l : Nat) (o o' : Obj), I pre W → w.heap.size ≤ l → W.heap[l]? = some o → o.isCells = false → I pre (W.putObj l o') := fun pre W l o o' h hl ho hc =>
    hI pre W _ (some l) h (grownBy_putObj' W l o') (fun r e => by cases e; exact .inr ⟨hl, o, ho, hc⟩)
  refine ⟨w.heap.size + 1, [{ target := .collected w.heap.size, args := #[] }], W1, { target := .fn (.func gf) lb, args := #[.func (.yield (w.heap.size + 1)) #[] #[]] }, W1, gf,
    #[.func (.yield (w.heap.size + 1)) #[] #[]] ++ lb, W1, ?_, ?_, ?_, ?_, fun _ => h1, ?_⟩
  · rw [← hW1, hrec]
    exact run_enterLoop_outer _ _ _ _ _
  · simp only [resolve, hg]
    simp [go_sem]
  · intro f' hf'
    simp [Target.leads] at hf'
    subst hf'
    exact hFg
  · simp [invoke, go_sem, eg]
  · refine (hseq (w.heap.size + 1) (fun pre W => I pre W ∧ W.heap[w.heap.size + 1]? = some (.loop (rec .ready none)) ∧ W.heap[w.heap.size]? = some (.deferred (some []))) W1 hb1 ?_ ?_ ⟨hI1, hL1, hK1⟩).mono ?_
    · rintro s A B row ⟨hi, hl, hk⟩ hg' hr
      have ne : ∀ k, w.heap.size ≤ k → some k ≠ row := fun k hk e => by have := hr k e.symm; omega
      exact ⟨hI s A B row hi hg' (fun r e => .inl (hr r e)), (hg'.block _ (blk_lt' hl) (ne _ (by omega))).trans hl, (hg'.block _ (blk_lt' hk) (ne _ (Nat.le_refl _))).trans hk⟩
    · rintro pre x W ⟨hi, hl, hk⟩ hlen
      have hy := run_yield (P := P) (args := encs x) hl (by rw [hrec]; exact hps x)
      rw [hrec] at hy
      refine ⟨fn, _, assign, body, hy, roundIn_of_wpIn hfn (wpIn_mono (hassign _ pre x W hi) ?_)⟩
      rintro e a' Wa he
      cases e <;> first | exact he.elim | skip
      obtain ⟨hkf, hkp, hia, hax⟩ := he
      have hl' := hkf.same _ _ (by omega) hl rfl
      have hk' := hkf.same _ _ (Nat.le_refl _) hk rfl
      have hlt := blk_lt' hl'
      refine ⟨_, run_beginRound hl' (by rw [hrec]), ?_⟩
      obtain ⟨Wb, hWb⟩ : ∃ Wb, Wb = Wa.putObj (w.heap.size + 1) (.loop { rec .ready none with state := .busy }) := ⟨_, rfl⟩
      rw [← hWb]
      have hl2 : Wb.heap[w.heap.size + 1]? = some (.loop { rec .ready none with state := .busy }) := by rw [hWb]; exact World.putObj_heap_same hlt
      have hk2 : Wb.heap[w.heap.size]? = some (.deferred (some [])) := by rw [hWb]; exact (World.putObj_heap_other (by omega)).trans hk'
      have hib : I pre Wb := by rw [hWb]; exact put _ _ _ _ _ hia (by omega) hl' rfl
      have hab : Ax x a' Wb := by rw [hWb]; exact hAx _ _ _ _ _ _ hax (by omega) hl' rfl
      have hkb : Kp Wa Wb := by rw [hWb]; exact hKb _ _ _ _ (by omega) hl' rfl rfl
      refine wpIn_mono (hbody _ pre x a' Wb hib hab hlen) ?_
      rintro e a3 W3 he
      cases e <;> first | exact he.elim | skip
      obtain ⟨hk3, hkp3, hi3⟩ := he
      have hl3 := hk3.same _ _ (by omega) hl2 rfl
      have hd3 := hk3.same _ _ (Nat.le_refl _) hk2 rfl
      have hr := run_endRound (P := P) none hl3
      rw [hrec] at hr hl3
      refine ⟨_, _, hr, rfl, ⟨put _ _ _ _ _ hi3 (by omega) hl3 rfl, ?_, (World.putObj_heap_other (by omega)).trans hd3⟩, hKt hkp (hKt (hKt hkb hkp3) (hKb _ _ _ _ (by omega) hl3 rfl rfl))⟩
      rw [World.putObj_heap_same (blk_lt' hl3), hrec]
      rfl
    · rintro e W2 ⟨⟨v, rfl⟩, xs, hS, hi, hl, hk⟩
      refine ⟨none, _, by have := run_endLoop (P := P) hl (by rw [hrec]; simp); rw [hrec] at this; exact this, hdone _ xs _ (Nat.le_refl _) hS (put _ _ _ _ _ hi (by omega) hl rfl) ((World.putObj_heap_other (by omega)).trans hk)⟩
end Go
