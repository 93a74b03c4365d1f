/- By hand: entry.Of and entry.Epoch (an iterator, walked in a range over a function). -/
import Derived.RangeFuncNested
import Derived.RangeFuncBound
import Derived.RangeFuncCalls
import Derived.RangeFuncLeaves
import Derived.RangeFuncBox
import Derived.Shelf.Abstract
import Derived.OwnWalkIn
import Derived.TacticsInMore
import Derived.LoopNIn
import Derived.LoopIn
import Derived.Test.YtphfejboahcnhaaPx0
namespace Go.Proofs.Ytphfejboahcnhaa.P
open Go.RowKit Go.Shelf Go.Proofs.YtphfejboahcnhaaW.PrintWords Go.Proofs.YtphfejboahcnhaaW.PrintLast Go.Proofs.YtphfejboahcnhaaW.PrintMore
set_option linter.unusedVariables false
set_option linter.unusedSimpArgs false
attribute [local go_sem] Oper.semAt_some
def encE (x : S25) : List Value := [.int .i64 x.f0, .int .i64 x.f1, .int .i64 x.f2, .int .i64 x.f3, .int .u64 x.f4, .int .u64 x.f5, .int .i64 x.f6, .int .i64 x.f7, .int .i64 x.f8]
def valE (x : S25) : Value := .agg #[.int .i64 x.f0, .int .i64 x.f1, .int .i64 x.f2, .int .i64 x.f3, .int .u64 x.f4, .int .u64 x.f5, .int .i64 x.f6, .int .i64 x.f7, .int .i64 x.f8]
def isK (kind : Int) (x : S25) : Bool := x.f0 == kind
theorem rd_take (l : List S25) {k : Nat} (h : k < l.length) : l.take (k + 1) = l.take k ++ [rd_T25 l k] := by
  rw [List.take_succ_eq_append_getElem h]
  unfold rd_T25
  rw [Int.toNat_natCast, List.getD_eq_getElem?_getD, List.getElem?_eq_getElem h]
  rfl
/-- What the iterator keeps across a round: what lay below n₀, and the box of the kind. -/
def KpE (n₀ Bk : Nat) (W W' : World) : Prop := Below n₀ W W' ∧ W'.heap[Bk]? = W.heap[Bk]?
theorem kpE_t {n₀ Bk : Nat} {A B C : World} (h : KpE n₀ Bk A B) (k : KpE n₀ Bk B C) : KpE n₀ Bk A C := ⟨h.1.trans k.1, k.2.trans h.2⟩
set_option maxRecDepth 100000 in
set_option maxHeartbeats 2000000 in
theorem of1_in (F : Fence) (n : Nat) (h36 : F.fn 36) (hro : F.round = none) (hn : 1 ≤ n) (lk Bl Bk : Nat) (w0 : World) (A : Option Addr) (c : Nat) (l : List S25) (kind : Int) (J Jx : List S25 → World → Prop)
    (hr0 : Kd.C k25 w0 A l.length l) (W : World) (hJ : AbidesFrom W.heap.size J)
    (hY : ∀ pre x W1, J pre W1 → pre.length < l.length → YieldAt F (n - 1) Try.prog lk #[valE x] W1 fun e W' =>
      (e = .returned (.bool true) ∧ J (pre ++ [x]) W' ∧ KpE w0.heap.size Bk W1 W') ∨ (e = .returned (.bool false) ∧ Jx (pre ++ [x]) W'))
    (hB : Below w0.heap.size w0 W) (hBl : W.cell? ⟨Bl, 0, none⟩ = some (.slice A l.length c)) (hBk : W.heap[Bk]? = some (.cells #[.int .i64 kind] 3 (0, 0))) (h0 : J [] W) :
    CallsIn F n Try.prog 36 #[.func (.yield lk) #[] #[], .pointer (some ⟨Bl, 0, none⟩), .pointer (some ⟨Bk, 0, none⟩)] W fun e W' => (∃ v, e = .returned v) ∧
      ((∃ ys, ys = l.filter (isK kind) ∧ J ys W') ∨ (∃ pre, True ∧ Jx pre W')) := by
  refine callsIn_of_wp Try.func36 rfl h36 ?_ hro
  simp only [Try.ntmps36, List.size_toArray, List.length_cons, List.length_nil, Nat.reduceAdd, Nat.reduceSub, Array.replicate_succ, Array.replicate_zero, List.push_toArray, List.append_toArray, List.nil_append, List.cons_append]
  have hm : l.length ≤ 9223372036854775807 := hr0.2.1
  gi_wp2
  gi_loopw [8] (fun i wr => ∃ k : Nat, k ≤ l.length ∧ i = .int .i64 k ∧ J ((l.take k).filter (isK kind)) wr ∧ Below w0.heap.size w0 wr ∧ wr.heap[Bk]? = some (.cells #[.int .i64 kind] 3 (0, 0)))
    (fun i _ => l.length - (intOf i).toNat)
  case atStart => exact ⟨0, Nat.zero_le _, rfl, h0, hB, hBk⟩
  case round =>
    obtain ⟨k, hk, rfl, hJs, hBw, hBk1⟩ := hrel
    by_cases hlt : k < l.length
    · obtain ⟨ad, e1, x0, x1, x2, x3, x4, x5, x6, x7, x8⟩ := at_T25 hr0 (k : Int) (by omega) (by omega)
      subst e1
      replace x0 := (hBw.cell (World.block_lt_of_cell? w0 _ x0)).trans x0
      replace x1 := (hBw.cell (World.block_lt_of_cell? w0 _ x1)).trans x1
      replace x2 := (hBw.cell (World.block_lt_of_cell? w0 _ x2)).trans x2
      replace x3 := (hBw.cell (World.block_lt_of_cell? w0 _ x3)).trans x3
      replace x4 := (hBw.cell (World.block_lt_of_cell? w0 _ x4)).trans x4
      replace x5 := (hBw.cell (World.block_lt_of_cell? w0 _ x5)).trans x5
      replace x6 := (hBw.cell (World.block_lt_of_cell? w0 _ x6)).trans x6
      replace x7 := (hBw.cell (World.block_lt_of_cell? w0 _ x7)).trans x7
      replace x8 := (hBw.cell (World.block_lt_of_cell? w0 _ x8)).trans x8
      rw [Int.toNat_natCast] at x0 x1 x2 x3 x4 x5 x6 x7 x8
      have ht := rd_take l hlt
      obtain ⟨x, hx⟩ : ∃ x, x = rd_T25 l (k : Int) := ⟨_, rfl⟩
      rw [← hx] at x0 x1 x2 x3 x4 x5 x6 x7 x8 ht
      have hBk2 : wr.cell? ⟨Bk, 0, none⟩ = some (.int .i64 kind) := blk_cell hBk1 0
      clear hx
      have hBk3 : (wr.alloc (.cells #[.int .i64 x.f0, .int .i64 x.f1, .int .i64 x.f2, .int .i64 x.f3, .int .u64 x.f4, .int .u64 x.f5, .int .i64 x.f6, .int .i64 x.f7, .int .i64 x.f8] 25 (0, 0))).cell? ⟨Bk, 0, none⟩ = some (.int .i64 kind) := blk_cell (blk_alloc hBk1 _) 0
      by_cases hkk : x.f0 = kind
      · have hkb : (x.f0 == kind) = true := beq_iff_eq.mpr hkk
        have hf : (l.take (k + 1)).filter (isK kind) = (l.take k).filter (isK kind) ++ [x] := by rw [ht]; simp [isK, hkb]
        have hJ2 : J ((l.take k).filter (isK kind)) (wr.alloc (.cells #[.int .i64 x.f0, .int .i64 x.f1, .int .i64 x.f2, .int .i64 x.f3, .int .u64 x.f4, .int .u64 x.f5, .int .i64 x.f6, .int .i64 x.f7, .int .i64 x.f8] 25 (0, 0))) := hJ _ _ _ none hJs (World.grownBy_alloc _ _ _) (by simp)
        obtain ⟨fn, tmps, assign, body, hy, hR⟩ := hY _ x _ hJ2 (by have := List.length_filter_le (isK kind) (l.take k); rw [List.length_take] at this; omega)
        simp only [valE] at hy
        have HF := Aside0.mk hf
        have HT := Aside0.mk ht
        have HB := Aside0.mk hBw
        clear hf ht hJ2 hkk
        gi_wp2
        refine hR.mono ?_
        rintro e W3 (⟨rfl, hJ3, hk3⟩ | ⟨rfl, hJx3⟩)
        · gi_wp2
          go_roundw
          case rel => exact ⟨k + 1, by omega, by simp, by rw [HF.out]; exact hJ3, (below_alloc HB.out _).trans hk3.1, hk3.2.trans (blk_alloc hBk1 _)⟩
          case measure => simp [intOf]; omega
        · gi_wp2
          refine bodyPost_ret (results_none rfl _ _ _) rfl ?_
          exact ⟨⟨_, rfl⟩, .inr ⟨_, trivial, hJx3⟩⟩
      · have hkb : (x.f0 == kind) = false := beq_eq_false_iff_ne.mpr hkk
        have hf : (l.take (k + 1)).filter (isK kind) = (l.take k).filter (isK kind) := by rw [ht]; simp [isK, hkb]
        have HF := Aside0.mk hf
        have HB := Aside0.mk hBw
        clear hf ht hkk
        gi_wp2
        refine ⟨fun _ h => (by cases h), ?_⟩
        gi_wp2
        go_roundw
        case rel => exact ⟨k + 1, by omega, by simp, by rw [HF.out]; exact hJ _ _ _ none hJs (World.grownBy_alloc _ _ _) (by simp), below_alloc HB.out _, blk_alloc hBk1 _⟩
        case measure => simp [intOf]; omega
    · obtain rfl : k = l.length := by omega
      gi_wp2
      go_end0
      exact ⟨⟨_, rfl⟩, .inl ⟨_, rfl, by rw [List.take_length] at hJs; exact hJs⟩⟩
set_option maxHeartbeats 1000000 in
theorem of_in (F : Fence) (n : Nat) (h28 : F.fn 28) (hro : F.round = none) (A : Option Addr) (m c : Nat) (kind : Int) (w : World) :
    CallsIn F n Try.prog 28 #[.slice A m c, .int .i64 kind] w fun e w' => e = .returned (.func (.func 36) #[] #[.pointer (some ⟨w.heap.size, 0, none⟩), .pointer (some ⟨w.heap.size + 1, 0, none⟩)]) ∧ w' = (w.alloc (.cells #[.slice A m c] 27)).alloc (.cells #[.int .i64 kind] 3) := by
  refine callsIn_of_wp Try.func28 rfl h28 ?_ hro
  simp only [Try.ntmps28, List.size_toArray, List.length_cons, List.length_nil, Nat.reduceAdd, Nat.reduceSub, Array.replicate_succ, Array.replicate_zero, List.push_toArray, List.append_toArray, List.nil_append, List.cons_append]
  gi_wp2
  go_ret
  exact ⟨rfl, rfl⟩
theorem of_stops (F : Fence) (n : Nat) (h36 : F.fn 36) (hro : F.round = none) (hn : 1 ≤ n) (Bl Bk : Nat) (w0 : World) (A : Option Addr) (c : Nat) (l : List S25) (kind : Int) (hr0 : Kd.C k25 w0 A l.length l) (w : World)
    (hB : Below w0.heap.size w0 w) (hBl : w.heap[Bl]? = some (.cells #[.slice A l.length c] 27 (0, 0))) (hBk : w.heap[Bk]? = some (.cells #[.int .i64 kind] 3 (0, 0))) :
    SeqStopsK F n Try.prog 36 #[.pointer (some ⟨Bl, 0, none⟩), .pointer (some ⟨Bk, 0, none⟩)] (fun x : S25 => #[valE x]) (KpE w0.heap.size Bk) (fun ys => ys = l.filter (isK kind)) (fun _ => True) l.length w := fun lk J Jx W hW hJ _ hY h0 =>
  of1_in F n h36 hro hn lk Bl Bk w0 A c l kind J Jx hr0 W hJ hY (hB.trans ((hW.mono hB.size))) (blk_cell ((hW.block Bl (blk_lt hBl)).trans hBl) 0) ((hW.block Bk (blk_lt hBk)).trans hBk) h0
theorem kpE_b {n₀ Bk : Nat} {w : World} (hn : n₀ ≤ w.heap.size) (hk : Bk < w.heap.size) (W : World) (l : Nat) (o o' : Obj) (hl : w.heap.size ≤ l) (h : W.heap[l]? = some o) (h1 : o.isCells = false) (h2 : o.isWalk = false) : KpE n₀ Bk W (W.putObj l o') :=
  ⟨belowK_b hn W l o o' hl h h1 h2, World.putObj_heap_other (by omega)⟩
/-- A block of cells lies on. -/
theorem own_blk {β : Type} (B : Nat) (k : β → Nat) (o : β → Obj) (ho : ∀ s, (o s).isCells = true) : OwnFrom B (fun s W => W.heap[k s]? = some (o s)) := by
  intro s W W' row hs hg hr
  refine (hg.block (k s) (blk_lt hs) ?_).trans hs
  intro e
  obtain ⟨_, o', h1, h2⟩ := hr (k s) e.symm
  rw [hs] at h1
  injection h1 with h1
  rw [← h1, ho s] at h2
  cases h2
theorem reps_enc {w : World} {base : Nat} {ok : Nat → Prop} (xs : List S25) : Reps (k25.M w base ok) k25.sz xs (xs.flatMap encE) := by
  have key : ∀ (ys pre : List S25), Reps (k25.M w base ok) k25.sz pre (pre.flatMap encE) → Reps (k25.M w base ok) k25.sz (pre ++ ys) ((pre ++ ys).flatMap encE) := by
    intro ys
    induction ys with
    | nil => intro pre h; simpa using h
    | cons y ys ih =>
      intro pre h
      have := ih (pre ++ [y]) (by rw [List.flatMap_append]; have z := Reps.snoc h (k25_mkM w base ok y) rfl; rw [List.flatMap_cons, List.flatMap_nil, List.append_nil]; exact z)
      simpa using this
  exact key xs [] ⟨by simp, fun j p h => by simp at h⟩
set_option maxRecDepth 100000 in
set_option maxHeartbeats 2000000 in
theorem appendSeq_in (F : Fence) (n : Nat) (h35 : F.fn 35) (h36 : F.fn 36) (hro : F.round = none) (hn : 3 ≤ n) (Bl Bk : Nat) (w0 : World) (A : Option Addr) (c : Nat) (l : List S25) (kind : Int) (hr0 : Kd.C k25 w0 A l.length l) (hlen : l.length < 1954687338268) (w : World)
    (hB : Below w0.heap.size w0 w) (hBl : w.heap[Bl]? = some (.cells #[.slice A l.length c] 27 (0, 0))) (hBk : w.heap[Bk]? = some (.cells #[.int .i64 kind] 3 (0, 0))) :
    CallsIn F n Try.prog 35 #[.slice none 0 0, .func (.func 36) #[] #[.pointer (some ⟨Bl, 0, none⟩), .pointer (some ⟨Bk, 0, none⟩)]] w fun e W' => ∃ v, e = .returned v ∧ W'.ownsRow w.heap.size 25 9 v (l.filter (isK kind)).length ((l.filter (isK kind)).flatMap encE) ∧ Below w.heap.size w W' := by
  have h1 : 1 ≤ n := by omega
  obtain ⟨i0, hi, hz0, hz1, hz2⟩ := info_parts info25
  refine callsIn_of_wp_marks Try.func35 rfl h35 ?_ hro
  simp only [Try.ntmps35, List.size_toArray, List.length_cons, List.length_nil, Nat.reduceAdd, Nat.reduceSub, Array.replicate_succ, Array.replicate_zero, List.push_toArray, List.append_toArray, List.nil_append, List.cons_append]
  gi_wp2
  have bO := Boxed.new w 27 (.slice none 0 0)
  have hB0 : Below w.heap.size w (w.alloc (.cells #[.slice none 0 0] 27)) := below_alloc (Below.refl _ w) _
  have hsz : (w.alloc (.cells #[.slice none 0 0] 27)).heap.size = w.heap.size + 1 := Array.size_push _
  have hlk := blk_lt hBk
  refine wpIn_rangeFunc_ownH hro h1 (gf := 36) (lb := #[.pointer (some ⟨Bl, 0, none⟩), .pointer (some ⟨Bk, 0, none⟩)]) rfl h36 (enters_of Try.func36 (by kernel_rfl) rfl)
    (of_stops F (n - 1) h36 hro (by omega) Bl Bk w0 A c l kind hr0 _ (hB.trans (hB0.mono hB.size)) (blk_alloc hBl _) (blk_alloc hBk _)) kpE_t (kpE_b (by have := hB.size; omega) (by omega)) (Below.refl _ _) (fun _ => rfl)
    (fun pre W => (∃ v, Boxed W w.heap.size 27 v ∧ W.ownsRow w.heap.size 25 9 v pre.length (pre.flatMap encE) ∧ True) ∧ Below w.heap.size w W)
    (fun _ _ _ => False)
    (OwnFrom.and (Own.from (holdsRow_own w.heap.size w.heap.size 27 25 9 (fun pre : List S25 => pre.length) (fun pre => pre.flatMap encE) (fun pre v => True)) _) (ownFrom_below (Nat.le_refl _) (by omega)))
    (fun _ _ _ _ _ hs _ _ => hs)
    ⟨⟨_, bO, World.ownsRow_nil _ _ _ _, trivial⟩, hB0⟩
    (fun x a' W => ∃ Bx, w.heap.size < Bx ∧ W.heap[Bx]? = some (.cells #[.int .i64 x.f0, .int .i64 x.f1, .int .i64 x.f2, .int .i64 x.f3, .int .u64 x.f4, .int .u64 x.f5, .int .i64 x.f6, .int .i64 x.f7, .int .i64 x.f8] 25 (0, 0)) ∧ a' = { tmps := #[.slice none 0 0, .func (.func 36) #[] #[.pointer (some ⟨Bl, 0, none⟩), .pointer (some ⟨Bk, 0, none⟩)], .pointer (some ⟨w.heap.size, 0, none⟩), undef, .slice none 0 0, .pointer (some ⟨Bx, 0, none⟩), .func (.func 36) #[] #[.pointer (some ⟨Bl, 0, none⟩), .pointer (some ⟨Bk, 0, none⟩)], valE x, undef, undef, undef, undef, undef], defers := [] })
    (fun x a' _ X Y row hs hg hr => by obtain ⟨Bx, h1, h2, h3⟩ := hs; exact ⟨Bx, h1, own_blk _ (fun (_ : Unit) => Bx) (fun _ => .cells #[.int .i64 x.f0, .int .i64 x.f1, .int .i64 x.f2, .int .i64 x.f3, .int .u64 x.f4, .int .u64 x.f5, .int .i64 x.f6, .int .i64 x.f7, .int .i64 x.f8] 25 (0, 0)) (fun _ => rfl) () X Y row h2 hg hr, h3⟩)
    ?assign ?body ?done ?stop
  case assign =>
    rintro lk pre x W K ⟨⟨v, hv, hrow, _⟩, hB1⟩ hK
    simp only [valE]
    gi_wp2
    exact hK _ _ ((KeepsOthers.alloc _ _).from _) ⟨(below_alloc (Below.refl _ W) _).mono (by have := hB1.size; have := hB.size; omega), Below.heap_alloc _ _ _ (by have := hB1.size; omega)⟩ ⟨⟨v, hv.alloc _, hrow.alloc _, trivial⟩, below_alloc hB1 _⟩ ⟨W.heap.size, by have := hv.lt; omega, blk_new W _, rfl⟩
  case body =>
    rintro lk pre x a' W hl ⟨r, hr⟩ ⟨⟨v, hv, hrow, _⟩, hB1⟩ ⟨Bx, hBx, bX, rfl⟩ hlt
    have hc := hv.cell
    simp only [valE]
    have x0 : W.cell? ⟨Bx, 0, none⟩ = some _ := blk_cell bX 0
    have x1 : W.cell? ⟨Bx, 1, none⟩ = some _ := blk_cell bX 1
    have x2 : W.cell? ⟨Bx, 2, none⟩ = some _ := blk_cell bX 2
    have x3 : W.cell? ⟨Bx, 3, none⟩ = some _ := blk_cell bX 3
    have x4 : W.cell? ⟨Bx, 4, none⟩ = some _ := blk_cell bX 4
    have x5 : W.cell? ⟨Bx, 5, none⟩ = some _ := blk_cell bX 5
    have x6 : W.cell? ⟨Bx, 6, none⟩ = some _ := blk_cell bX 6
    have x7 : W.cell? ⟨Bx, 7, none⟩ = some _ := blk_cell bX 7
    have x8 : W.cell? ⟨Bx, 8, none⟩ = some _ := blk_cell bX 8
    gi_wp2_with (gi_at_builtin; refine wpListIn_append_own _ rfl _ _ 27 rfl w.heap.size 25 i0 (.agg #[.int .i64 0, .int .i64 0, .int .i64 0, .int .i64 0, .int .u64 0, .int .u64 0, .int .i64 0, .int .i64 0, .int .i64 0]) 9 72 Try.underlying27 hi hz0 hz1 hz2 rfl (by decide) _ _ _ rfl (hrow.alloc _) ⟨W.heap.size, 0, none⟩ 1 1 (encE x) rfl rfl (World.news_of_block (cs := #[.int .i64 x.f0, .int .i64 x.f1, .int .i64 x.f2, .int .i64 x.f3, .int .u64 x.f4, .int .u64 x.f5, .int .i64 x.f6, .int .i64 x.f7, .int .i64 x.f8]) (t := 25) (fr := (0, 0)) (heap_alloc_new W _)) (by simp [encE, Value.oneCell']) (by simp only [maxLen]; omega) (by omega) (by have := hB1.size; simp; omega) ?_; intro v' w1 hown' hgrow _; obtain ⟨g', cap', rfl⟩ := ownsRow_succ hown'; obtain ⟨hv1, hv2, hr2, hk2, hb2⟩ := hv.appended (by decide) hrow hB1.size (Nat.le_refl _) hown' hgrow; have hc1 := hv1.cell; have hf1 := hv1.frozen)
    exact ⟨hk2.from _, ⟨hb2.mono hB.size, hb2.block _ hlk⟩, ⟨_, hv2, by rw [List.flatMap_append]; simpa using hr2, trivial⟩, hB1.trans hb2⟩
  case done =>
    rintro D ys W hD rfl ⟨⟨v, hv, hrow, _⟩, hB1⟩ hK
    have hc := hv.cell
    gi_wp2
    refine ⟨by simp, .inl ⟨_, _, rfl, run_takeDeferred hK, ?_⟩⟩
    exact ⟨_, results_tmp rfl _ _ _, v, rfl, ownsRow_putObj hrow _ hK rfl, hB1.trans (belowK_b (w := w) (Nat.le_refl _) W D _ _ (by simp at hD; omega) hK rfl rfl)⟩
  case stop =>
    rintro D c pre W _ _ h _
    exact h.elim
def entry_Of.f (l0 : List (S25)) (a1 : Int) : Option ((List (S25))) := if l0.length < 1954687338268 then some (l0.filter (isK a1)) else none
theorem of_calls (A : Option Addr) (m c : Nat) (kind : Int) (w : World) :
    Calls Try.prog 28 #[.slice A m c, .int .i64 kind] w fun e w' => e = .returned (.func (.func 36) #[] #[.pointer (some ⟨w.heap.size, 0, none⟩), .pointer (some ⟨w.heap.size + 1, 0, none⟩)]) ∧ w' = (w.alloc (.cells #[.slice A m c] 27)).alloc (.cells #[.int .i64 kind] 3) :=
  (callsIn_wide (n := 3)).1 (of_in Fence.wide 3 trivial rfl A m c kind w)
set_option maxRecDepth 100000 in
set_option maxHeartbeats 1000000 in
theorem collect_calls (Bl Bk : Nat) (w0 : World) (A : Option Addr) (c : Nat) (l : List S25) (kind : Int) (hr0 : Aside0 (Kd.C k25 w0 A l.length l)) (hlen : l.length < 1954687338268) (w : World)
    (hB : Aside0 (Below w0.heap.size w0 w)) (hBl : Aside0 (w.heap[Bl]? = some (.cells #[.slice A l.length c] 27 (0, 0)))) (hBk : Aside0 (w.heap[Bk]? = some (.cells #[.int .i64 kind] 3 (0, 0)))) :
    Calls Try.prog 27 #[.func (.func 36) #[] #[.pointer (some ⟨Bl, 0, none⟩), .pointer (some ⟨Bk, 0, none⟩)]] w fun e W' => ∃ v, e = .returned v ∧ W'.ownsRow w.heap.size 25 9 v (l.filter (isK kind)).length ((l.filter (isK kind)).flatMap encE) ∧ Below w.heap.size w W' := by
  go_enter Try.func27, Try.ntmps27
  go_wp2_with (first | (go_at_call 35; refine ((callsIn_wide (n := 3)).1 (appendSeq_in Fence.wide 3 trivial trivial rfl (Nat.le_refl _) Bl Bk w0 A c l kind hr0.out hlen w hB.out hBl.out hBk.out)).mono ?_; rintro e w1 ⟨v, rfl, hrow, hb⟩; have HR := Aside0.mk hrow; have HB := Aside0.mk hb; clear hrow hb))
  go_ret
  exact ⟨_, rfl, HR.out, HB.out⟩
set_option maxRecDepth 100000 in
set_option maxHeartbeats 1000000 in
theorem entry_Of.calls (A0 : Option Addr) (c0 : Nat) (l0 : List (S25)) (a1 : Int) (r : List (S25)) (w : World) (hr0 : Kd.C k25 w A0 l0.length l0) (hc0 : l0.length ≤ c0) (h : entry_Of.f l0 a1 = some r) :
    Calls Try.prog 16 #[.slice A0 l0.length c0, .int .i64 a1] w fun e w' => ∃ v0_ : Value, e = .returned (v0_) ∧ Kd.R k25 25 w' w.heap.size (fun _ => True) v0_ r ∧ Below w.heap.size w w' := by
  unfold entry_Of.f at h
  split at h
  case isFalse => simp at h
  rename_i hlen
  obtain rfl := Option.some.inj h
  have HR0 := Aside0.mk hr0
  have HL := Aside0.mk hlen
  clear h hr0 hc0 hlen
  go_enter Try.func16, Try.ntmps16
  go_wp2_with (first | (go_at_call 28; refine (of_calls A0 l0.length c0 a1 w).mono ?_; rintro e w1 ⟨rfl, hw⟩; have HBl := Aside0.mk (show w1.heap[w.heap.size]? = some (.cells #[.slice A0 l0.length c0] 27 (0, 0)) by rw [hw]; exact blk_alloc (blk_new w _) _); have HBk := Aside0.mk (show w1.heap[w.heap.size + 1]? = some (.cells #[.int .i64 a1] 3 (0, 0)) by rw [hw]; have z := blk_new (w.alloc (.cells #[.slice A0 l0.length c0] 27)) (.cells #[.int .i64 a1] 3); rwa [show (w.alloc (.cells #[.slice A0 l0.length c0] 27)).heap.size = w.heap.size + 1 from Array.size_push _] at z); have HB := Aside0.mk (show Below w.heap.size w w1 by rw [hw]; exact below_alloc (below_alloc (Below.refl _ _) _) _); clear hw) | (go_at_call 27; refine (collect_calls _ _ w A0 c0 l0 a1 HR0 HL.out _ HB HBl HBk).mono ?_; rintro e w2 ⟨v, rfl, hrow, hb⟩; have HR := Aside0.mk hrow; have HB2 := Aside0.mk (below_step HB.out hb); have HS := Aside0.mk HB.out.size; clear hrow hb))
  go_ret
  refine ⟨_, rfl, ?_, HB2.out⟩
  exact Kd.R_lower ⟨fun _ _ => trivial, _, HR.out, reps_enc _⟩ HS.out
def lastE (l : List S25) : Int := l.foldl (fun _ x => x.f2) 0
theorem lastE_snoc (l : List S25) (x : S25) : lastE (l ++ [x]) = x.f2 := by simp [lastE, List.foldl_append]
def entry_Epoch.f (l0 : List (S25)) : Option (Int) := some (lastE (l0.filter (isK 0)))
set_option maxRecDepth 100000 in
set_option maxHeartbeats 2000000 in
theorem epoch_in (F : Fence) (n : Nat) (h20 : F.fn 20) (h28 : F.fn 28) (h36 : F.fn 36) (hro : F.round = none) (hn : 3 ≤ n) (A : Option Addr) (c : Nat) (l : List S25) (w : World) (hr0 : Kd.C k25 w A l.length l) :
    CallsIn F n Try.prog 20 #[.slice A l.length c] w fun e W' => e = .returned (.int .i64 (lastE (l.filter (isK 0)))) ∧ Below w.heap.size w W' := by
  have h1 : 1 ≤ n := by omega
  refine callsIn_of_wp_marks Try.func20 rfl h20 ?_ hro
  simp only [Try.ntmps20, List.size_toArray, List.length_cons, List.length_nil, Nat.reduceAdd, Nat.reduceSub, Array.replicate_succ, Array.replicate_zero, List.push_toArray, List.append_toArray, List.nil_append, List.cons_append]
  gi_wp2_with (gi_at_call 28; refine (of_in F (n - 1) h28 hro _ _ _ _ _).mono ?_; rintro e w' ⟨rfl, rfl⟩)
  have bO := Boxed.new w 3 (.int .i64 0)
  have hs1 : (w.alloc (.cells #[.int .i64 0] 3)).heap.size = w.heap.size + 1 := Array.size_push _
  have bl := blk_new (w.alloc (.cells #[.int .i64 0] 3)) (.cells #[.slice A l.length c] 27)
  have bk := blk_new ((w.alloc (.cells #[.int .i64 0] 3)).alloc (.cells #[.slice A l.length c] 27)) (.cells #[.int .i64 0] 3)
  have hs2 : ((w.alloc (.cells #[.int .i64 0] 3)).alloc (.cells #[.slice A l.length c] 27)).heap.size = w.heap.size + 2 := Array.size_push _ |>.trans (by rw [hs1])
  have hs3 : (((w.alloc (.cells #[.int .i64 0] 3)).alloc (.cells #[.slice A l.length c] 27)).alloc (.cells #[.int .i64 0] 3)).heap.size = w.heap.size + 3 := Array.size_push _ |>.trans (by rw [hs2])
  rw [hs1] at bl
  rw [hs2] at bk
  have hB0 : Below w.heap.size w (((w.alloc (.cells #[.int .i64 0] 3)).alloc (.cells #[.slice A l.length c] 27)).alloc (.cells #[.int .i64 0] 3)) := below_alloc (below_alloc (below_alloc (Below.refl _ w) _) _) _
  have bO3 := (bO.alloc (.cells #[.slice A l.length c] 27)).alloc (.cells #[.int .i64 0] 3)
  have bl3 := blk_alloc bl (.cells #[.int .i64 0] 3)
  obtain ⟨w1, hw1⟩ : ∃ w1, ((w.alloc (.cells #[.int .i64 0] 3)).alloc (.cells #[.slice A l.length c] 27)).alloc (.cells #[.int .i64 0] 3) = w1 := ⟨_, rfl⟩
  rw [hw1] at hs3 bk hB0 bO3 bl3 ⊢
  clear hw1 hs1 hs2 bl bO
  refine wpIn_rangeFunc_ownH hro h1 (gf := 36) (lb := #[.pointer (some ⟨w.heap.size + 1, 0, none⟩), .pointer (some ⟨w.heap.size + 1 + 1, 0, none⟩)]) rfl h36 (enters_of Try.func36 (by kernel_rfl) rfl)
    (of_stops F (n - 1) h36 hro (by omega) (w.heap.size + 1) (w.heap.size + 1 + 1) w A c l 0 hr0 w1 hB0 bl3 bk) kpE_t (kpE_b (by omega) (by omega)) (Below.refl _ _) (fun _ => rfl)
    (fun pre W => (Boxed W w.heap.size 3 (.int .i64 (lastE pre)) ∧ W.heap[w.heap.size + 1 + 1]? = some (.cells #[.int .i64 0] 3 (0, 0))) ∧ Below w.heap.size w W)
    (fun _ _ _ => False)
    (OwnFrom.and (OwnFrom.and (Own.from (boxed_own _ _ _) _) (own_blk _ (fun _ => w.heap.size + 1 + 1) (fun _ => .cells #[.int .i64 0] 3 (0, 0)) (fun _ => rfl))) (ownFrom_below (Nat.le_refl _) (by omega)))
    (fun _ _ _ _ _ hs _ _ => hs)
    ⟨⟨bO3, bk⟩, hB0⟩
    (fun x a' W => ∃ Bx, w.heap.size < Bx ∧ W.heap[Bx]? = some (.cells #[.int .i64 x.f0, .int .i64 x.f1, .int .i64 x.f2, .int .i64 x.f3, .int .u64 x.f4, .int .u64 x.f5, .int .i64 x.f6, .int .i64 x.f7, .int .i64 x.f8] 25 (0, 0)) ∧ a' = { tmps := #[.slice A l.length c, undef, .int .i64 0, .pointer (some ⟨w.heap.size, 0, none⟩), .pointer (some ⟨Bx, 0, none⟩), .slice A l.length c, .func (.func 36) #[] #[.pointer (some ⟨w.heap.size + 1, 0, none⟩), .pointer (some ⟨w.heap.size + 1 + 1, 0, none⟩)], valE x, undef, undef, undef], defers := [] })
    (fun x a' _ X Y row hs hg hr => by obtain ⟨Bx, h1, h2, h3⟩ := hs; exact ⟨Bx, h1, own_blk _ (fun (_ : Unit) => Bx) (fun _ => .cells #[.int .i64 x.f0, .int .i64 x.f1, .int .i64 x.f2, .int .i64 x.f3, .int .u64 x.f4, .int .u64 x.f5, .int .i64 x.f6, .int .i64 x.f7, .int .i64 x.f8] 25 (0, 0)) (fun _ => rfl) () X Y row h2 hg hr, h3⟩)
    ?assign ?body ?done ?stop
  case assign =>
    rintro lk pre x W K ⟨⟨hv, hbk⟩, hB1⟩ hK
    simp only [valE]
    gi_wp2
    exact hK _ _ ((KeepsOthers.alloc _ _).from _) ⟨(below_alloc (Below.refl _ W) _).mono hB1.size, Below.heap_alloc _ _ _ (blk_lt hbk)⟩ ⟨⟨hv.alloc _, blk_alloc hbk _⟩, below_alloc hB1 _⟩ ⟨W.heap.size, by have := hv.lt; omega, blk_new W _, rfl⟩
  case body =>
    rintro lk pre x a' W hl ⟨r, hr⟩ ⟨⟨hv, hbk⟩, hB1⟩ ⟨Bx, hBx, bX, rfl⟩ hlt
    have hc := hv.cell
    have hf := hv.frozen
    simp only [valE]
    have x2 : W.cell? ⟨Bx, 2, none⟩ = some _ := blk_cell bX 2
    gi_wp2
    have hfar : (W.setCell ⟨w.heap.size, 0, none⟩ (.int .i64 x.f2)).heap[w.heap.size + 1 + 1]? = W.heap[w.heap.size + 1 + 1]? := Below.heap_setCell W ⟨w.heap.size, 0, none⟩ _ _ (by show w.heap.size + 1 + 1 ≠ w.heap.size; omega)
    exact ⟨(KeepsOthers.setCell _ _ _).from _, ⟨(Below.refl w.heap.size W).setCell (p := ⟨w.heap.size, 0, none⟩) (Nat.le_refl _) _, hfar⟩, ⟨⟨by rw [lastE_snoc]; exact hv.set _, hfar.trans hbk⟩, hB1.setCell (p := ⟨w.heap.size, 0, none⟩) (Nat.le_refl _) _⟩⟩
  case done =>
    rintro D ys W hD rfl ⟨⟨hv, hbk⟩, hB1⟩ hK
    have hc := hv.cell
    gi_wp2
    refine ⟨by simp, .inl ⟨_, _, rfl, run_takeDeferred hK, ?_⟩⟩
    exact ⟨_, results_tmp rfl _ _ _, rfl, hB1.trans (belowK_b (w := w) (Nat.le_refl _) W D _ _ (by omega) hK rfl rfl)⟩
  case stop =>
    rintro D c pre W _ _ h _
    exact h.elim
theorem entry_Epoch.calls (A0 : Option Addr) (c0 : Nat) (l0 : List (S25)) (r : Int) (w : World) (hr0 : Kd.C k25 w A0 l0.length l0) (hc0 : l0.length ≤ c0) (h : entry_Epoch.f l0 = some r) :
    Calls Try.prog 20 #[.slice A0 l0.length c0] w fun e w' => e = .returned (.int .i64 r) ∧ Below w.heap.size w w' := by
  obtain rfl := Option.some.inj h
  exact (callsIn_wide (n := 3)).1 (epoch_in Fence.wide 3 trivial trivial trivial rfl (Nat.le_refl _) A0 c0 l0 w hr0)
end Go.Proofs.Ytphfejboahcnhaa.P
