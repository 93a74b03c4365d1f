/- What LawSymOnce rests on, part 11: several texts put together. -/
import Derived.Test.YtdinphnljokigaaGreatQ3
import Derived.Test.YtdinphnljokigaaGreatQ10
import Derived.Laws.CopyOwn
import Derived.Lib.AppendZerosOnto
import Derived.Test.YtdinphnljokigaaGreatQ2
set_option linter.unusedVariables false
set_option linter.unnecessarySimpa false
set_option linter.unusedSimpArgs false
set_option maxRecDepth 100000
section
namespace Go.Proofs.YtdinphnljokigaaGreat.P
open Go.RowKit Go.Lib Go.Proofs.YtdinphnljokigaaGreatW.PrintWords Go.Proofs.YtdinphnljokigaaGreatW.PrintLast Go.Proofs.YtdinphnljokigaaGreatW.PrintMore
structure Frm where
 kind : Int
 user : Int
 sess : Int
 cn : Int
 epoch : Int
 count : Int
 cmd : Int
 arg : Int
 tag : Key
theorem Frm.eq_iff (a b : Frm) : a = b ↔ (a.kind = b.kind ∧ a.user = b.user ∧ a.sess = b.sess ∧ a.cn = b.cn ∧ a.epoch = b.epoch ∧ a.count = b.count ∧ a.cmd = b.cmd ∧ a.arg = b.arg ∧ a.tag.1 = b.tag.1) := by
 constructor
 ·rintro rfl
  exact ⟨rfl, rfl, rfl, rfl, rfl, rfl, rfl, rfl, rfl⟩
 ·obtain ⟨a0, a1, a2, a3, a4, a5, a6, a7, ⟨a9, _⟩⟩ := a
  obtain ⟨b0, b1, b2, b3, b4, b5, b6, b7, ⟨b9, _⟩⟩ := b
  rintro ⟨h0, h1, h2, h3, h4, h5, h6, h7, h8⟩
  dsimp only at h0 h1 h2 h3 h4 h5 h6 h7 h8
  subst h0 h1 h2 h3 h4 h5 h6 h7 h8
  rfl
instance : DecidableEq Frm := fun a b => decidable_of_iff _ (Frm.eq_iff a b).symm
def zfrm : Frm := ⟨0, 0, 0, 0, 0, 0, 0, 0, zkey⟩
def fcl (x : Frm) : List Value := .int .i64 x.kind :: .int .i64 x.user :: .int .u64 x.sess :: .int .u64 x.cn :: .int .i64 x.epoch :: .int .u64 x.count :: .int .i64 x.cmd :: .int .i64 x.arg ::  (x.tag.1.map (Value.int .u8))
theorem fcl_len (x : Frm) : (fcl x).length = 40 := by
 have := x.tag.2
 simp only [fcl, List.length_cons, List.length_map, this]
theorem fcl_one (x : Frm) : ∀ u ∈ fcl x, u.oneCell' = true := by
 intro u hu
 simp only [fcl, List.mem_cons, List.mem_map] at hu
 rcases hu with rfl | rfl | rfl | rfl | rfl | rfl | rfl | rfl | ⟨a, _, rfl⟩ <;> rfl
theorem fcl_at (x : Frm) : (fcl x)[0]? = some (.int .i64 x.kind) ∧ (fcl x)[1]? = some (.int .i64 x.user) ∧ (fcl x)[2]? = some (.int .u64 x.sess) ∧ (fcl x)[3]? = some (.int .u64 x.cn) ∧ (fcl x)[4]? = some (.int .i64 x.epoch) ∧ (fcl x)[5]? = some (.int .u64 x.count) ∧ (fcl x)[6]? = some (.int .i64 x.cmd) ∧ (fcl x)[7]? = some (.int .i64 x.arg) := ⟨rfl, rfl, rfl, rfl, rfl, rfl, rfl, rfl⟩
theorem fcl_tag (x : Frm) : ((fcl x).drop 8).take 32 = x.tag.1.map (Value.int .u8) := by
 have hl : (x.tag.1.map (Value.int .u8)).length = 32 := by rw [List.length_map, x.tag.2]
 show (x.tag.1.map (Value.int .u8)).take 32 = _
 exact List.take_of_length_le (Nat.le_of_eq hl)
def fca (x : Frm) : Array Value := (fcl x).toArray
theorem fca_size (x : Frm) : (fca x).size = 40 := fcl_len x
theorem fca_list (x : Frm) : (fca x).toList = fcl x := rfl
theorem fca_at (x : Frm) : (fca x)[0]? = some (.int .i64 x.kind) ∧ (fca x)[1]? = some (.int .i64 x.user) ∧ (fca x)[2]? = some (.int .u64 x.sess) ∧ (fca x)[3]? = some (.int .u64 x.cn) ∧ (fca x)[4]? = some (.int .i64 x.epoch) ∧ (fca x)[5]? = some (.int .u64 x.count) ∧ (fca x)[6]? = some (.int .i64 x.cmd) ∧ (fca x)[7]? = some (.int .i64 x.arg) := by
 unfold fca
 simp only [List.getElem?_toArray]
 exact fcl_at x
theorem part_tag (w : World) (x : Frm) : (part 29 (fca x) 8).run Tryz.prog w = .ok (.agg (x.tag.1.map (Value.int .u8)).toArray) w := by
 have hi : (Tryz.prog.info? 29).map (·.size) = some 32 := by kernel_rfl
 cases hq : Tryz.prog.info? 29 with
 | none => rw [hq] at hi; simp at hi
 | some i =>
  have hs : i.size = 32 := by simpa [hq] using hi
  have he : (fca x).extract 8 (8 + 32) = (x.tag.1.map (Value.int .u8)).toArray := by
   apply Array.toList_inj.1
   rw [Array.toList_extract, fca_list]
   show ((fcl x).drop 8).take (8 + 32 - 8) = _
   exact fcl_tag x
  unfold part isAgg
  simp only [Sem.run_bind, run_underlying Tryz.underlying29 w, Result.andThen_ok, sizeOf, typeInfo, Sem.run_pure, if_true]
  simp [hq, hs, he]
theorem eq_frm (w : World) (d : Nat) (x y : Frm) : (Op.equalIn (d + 3) 31 (.agg (fca x)) (.agg (fca y))).run Tryz.prog w = .ok (decide (x = y)) w := by
 have c : ∀ (z : Frm) (t : TypeId) (off : Nat) (v : Value) (de : TypeDesc), Tryz.prog.underlying t = some de → aggD de = false → (fcl z)[off]? = some v → (part t (fca z) off).run Tryz.prog w = .ok v w := by
  intro z t off v de hu hd h
  exact part_cell hu hd (by rw [fca, List.getElem?_toArray]; exact h)
 obtain ⟨x0, x1, x2, x3, x4, x5, x6, x7⟩ := fcl_at x
 obtain ⟨y0, y1, y2, y3, y4, y5, y6, y7⟩ := fcl_at y
 have key : (Op.equalIn (d + 3) 31 (.agg (fca x)) (.agg (fca y))).run Tryz.prog w = .ok ((x.kind == y.kind) && ((x.user == y.user) && ((x.sess == y.sess) && ((x.cn == y.cn) && ((x.epoch == y.epoch) && ((x.count == y.count) && ((x.cmd == y.cmd) && ((x.arg == y.arg) && (decide (x.tag.1 = y.tag.1)))))))))) w := by
  refine eqA_of Tryz.underlying31 (by kernel_rfl) ?_
  refine eqf_cons (by rfl) (c x _ _ _ _ Tryz.underlying3 rfl x0) (c y _ _ _ _ Tryz.underlying3 rfl y0) (run_equalIn_int _ _ _ _ _ _ _ Tryz.underlying3) ?_
  refine eqf_cons (by rfl) (c x _ _ _ _ Tryz.underlying3 rfl x1) (c y _ _ _ _ Tryz.underlying3 rfl y1) (run_equalIn_int _ _ _ _ _ _ _ Tryz.underlying3) ?_
  refine eqf_cons (by rfl) (c x _ _ _ _ Tryz.underlying27 rfl x2) (c y _ _ _ _ Tryz.underlying27 rfl y2) (run_equalIn_int _ _ _ _ _ _ _ Tryz.underlying27) ?_
  refine eqf_cons (by rfl) (c x _ _ _ _ Tryz.underlying27 rfl x3) (c y _ _ _ _ Tryz.underlying27 rfl y3) (run_equalIn_int _ _ _ _ _ _ _ Tryz.underlying27) ?_
  refine eqf_cons (by rfl) (c x _ _ _ _ Tryz.underlying3 rfl x4) (c y _ _ _ _ Tryz.underlying3 rfl y4) (run_equalIn_int _ _ _ _ _ _ _ Tryz.underlying3) ?_
  refine eqf_cons (by rfl) (c x _ _ _ _ Tryz.underlying27 rfl x5) (c y _ _ _ _ Tryz.underlying27 rfl y5) (run_equalIn_int _ _ _ _ _ _ _ Tryz.underlying27) ?_
  refine eqf_cons (by rfl) (c x _ _ _ _ Tryz.underlying3 rfl x6) (c y _ _ _ _ Tryz.underlying3 rfl y6) (run_equalIn_int _ _ _ _ _ _ _ Tryz.underlying3) ?_
  refine eqf_cons (by rfl) (c x _ _ _ _ Tryz.underlying3 rfl x7) (c y _ _ _ _ Tryz.underlying3 rfl y7) (run_equalIn_int _ _ _ _ _ _ _ Tryz.underlying3) ?_
  exact eqf_last (by rfl) (part_tag w x) (part_tag w y) (eq_key w d x.tag y.tag)
 rw [key]
 congr 1
 rw [Bool.eq_iff_iff, decide_eq_true_eq, Frm.eq_iff]
 simp only [Bool.and_eq_true, beq_iff_eq, decide_eq_true_eq]
theorem eql_frm (w : World) (x y : Frm) : (binOp .eql 31 (.agg (fca x)) (.agg (fca y))).run Tryz.prog w = .ok (.bool (decide (x = y))) w := by
 show (do pure (Value.bool (← Op.equal 31 (.agg (fca x)) (.agg (fca y)))) : Sem Value).run Tryz.prog w = _
 have h : (Op.equal 31 (.agg (fca x)) (.agg (fca y))).run Tryz.prog w = .ok (decide (x = y)) w := eq_frm w 9997 x y
 simp only [Sem.run_bind, h, Result.andThen_ok, Sem.run_pure]
theorem infoF : (Tryz.prog.info? 31).map (·.size) = some 40 := by kernel_rfl
theorem cellsF {w : World} {g : Nat} {t : TypeId} {x : Frm} (h : w.heap[g]? = some (.cells (fca x) t (0, 0))) : w.cell? ⟨g, 0, none⟩ = some (.int .i64 x.kind) ∧ w.cell? ⟨g, 1, none⟩ = some (.int .i64 x.user) ∧ w.cell? ⟨g, 2, none⟩ = some (.int .u64 x.sess) ∧ w.cell? ⟨g, 3, none⟩ = some (.int .u64 x.cn) ∧ w.cell? ⟨g, 4, none⟩ = some (.int .i64 x.epoch) ∧ w.cell? ⟨g, 5, none⟩ = some (.int .u64 x.count) ∧ w.cell? ⟨g, 6, none⟩ = some (.int .i64 x.cmd) ∧ w.cell? ⟨g, 7, none⟩ = some (.int .i64 x.arg) := by
 have c : ∀ j v, (fcl x)[j]? = some v → w.cell? ⟨g, j, none⟩ = some v := fun j v hv => by
  rw [blk_cell h j, fca, List.getElem?_toArray]
  exact hv
 obtain ⟨h0, h1, h2, h3, h4, h5, h6, h7⟩ := fcl_at x
 exact ⟨c _ _ h0, c _ _ h1, c _ _ h2, c _ _ h3, c _ _ h4, c _ _ h5, c _ _ h6, c _ _ h7⟩
section
variable {ops : Array Oper} {rest : List Oper} {o : Oper} {a : Act} {w : World} {Q : Exit → Act → World → Prop} {K : Act → World → Prop}
theorem run_loadF {p : Addr} {x : Frm} (hc : ∀ j v, (fcl x)[j]? = some v → w.cell? (p.add j) = some v) : (loadVar 31 p).run Tryz.prog w = .ok (.agg (fca x)) w := by
 have hl := run_loadCells_list (P := Tryz.prog) w p (fcl x) hc
 rw [fcl_len] at hl
 have hi := infoF
 cases hq : Tryz.prog.info? 31 with
 | none => rw [hq] at hi; simp at hi
 | some i =>
  have hs : i.size = 40 := by simpa [hq] using hi
  have hagg : (isAgg 31).run Tryz.prog w = .ok true w := by
   unfold isAgg
   rw [Sem.run_bind, run_underlying Tryz.underlying31 w]
   simp
  simp [loadVar, Sem.run_bind, hagg, sizeOf, typeInfo, hq, hs, hl, fca]
theorem exec_loadF (x : Operand) (ho : o.op = .load 31 x) {p : Addr} (hx : a.eval x = .pointer (some p)) {s : Frm} (hc : ∀ j v, (fcl s)[j]? = some v → w.cell? (p.add j) = some v) :
  (execOp a.eval o).run Tryz.prog w = .ok (.value (.agg (fca s))) w := by
 unfold execOp
 simp only [ho, hx, Instr.loadAt, Instr.sureAddr, Sem.run_bind, Sem.run_pure, Result.andThen_ok, run_loadF hc]
theorem cells_boxF {g : Nat} {t : TypeId} {s : Frm} (h : w.heap[g]? = some (.cells (fca s) t (0, 0))) : ∀ j v, (fcl s)[j]? = some v → w.cell? ((⟨g, 0, none⟩ : Addr).add j) = some v := fun j v hv => by
 have hadd : (⟨g, 0, none⟩ : Addr).add j = ⟨g, j, none⟩ := by unfold Addr.add; split <;> simp_all
 rw [hadd, blk_cell h j, fca, List.getElem?_toArray]
 exact hv
theorem load_F (x : Operand) (ho : o.op = .load 31 x) (hgd : o.guard = none) {p : Addr} (hx : a.eval x = .pointer (some p)) {s : Frm} (hc : ∀ j v, (fcl s)[j]? = some v → w.cell? (p.add j) = some v)
  (h : wpList Tryz.prog ops Q rest (a.put o.dst (.agg (fca s))) w) : wpList Tryz.prog ops Q (o :: rest) a w := Kd.event_run hgd (exec_loadF x ho hx hc) h
end
theorem run_copy_rows {P : Program} (w : World) (dT sT ty elem : TypeId) (b o dLen dCap : Nat) (a : Addr) (sLen sCap sz n : Nat) (cs : List Value)
  (hu : P.underlying dT = some (.slice elem)) (hs : (P.info? elem).map (·.size) = some sz) (hn : n = Nat.min sLen dLen) (hl : cs.length = n * sz)
  (hsrc : ∀ j v, cs[j]? = some v → w.cell? (a.add j) = some v) (hc : ∀ j, j < cs.length → (w.cell? ⟨b, o + j, none⟩).isSome = true) (hf : ∀ j, j < cs.length → w.frozen? ⟨b, o + j, none⟩ = false) (h1 : ∀ v ∈ cs, v.oneCell' = true) :
  (Builtin.copy_ #[dT, sT] ty #[.slice (some ⟨b, o, none⟩) dLen dCap, .slice (some a) sLen sCap]).run P w = .ok (goInt n) (w.setCells b o cs) := by
 have hld := run_loadCells_list (P := P) w a cs hsrc
 have hst := run_storeCells_cells (P := P) b o cs 0 w (by simpa using hc) (by simpa using hf) h1
 cases hq : P.info? elem with
 | none => simp [hq] at hs
 | some i =>
  have hi : i.size = sz := by simpa [hq] using hs
  rw [hl] at hld
  simp [Builtin.copy_, run_underlying hu, Builtin.lenOf, Builtin.firstCells, sizeOf, typeInfo, hq, hi, ← hn, hld, hst]
structure Slot where
 n : Option Addr
 u : Option Addr
 k : Int
def sll (s : Slot) : List Value := [.pointer s.n, .pointer s.u, .int .i64 s.k]
def lcl (l : List Slot) : List Value := l.flatMap sll
def kL : Kd Slot where
 sz := 3
 E := []
 K := fun _ x cs => cs = sll x
 M := fun _ _ _ x cs => cs = sll x
 K_len := fun h => by rw [h]; rfl
 K_one := fun h u hu => by
  rw [h] at hu
  simp only [sll, List.mem_cons, List.not_mem_nil, or_false] at hu
  rcases hu with rfl | rfl | rfl <;> rfl
 K_below := fun _ h => h
 K_of_M := fun h => h
 M_mono := fun _ h => h
 M_bound := fun h => h
 M_move := fun _ h => h
 M_lower := fun _ h => h
theorem infoL : (Tryz.prog.info? 145).map (fun i => (i.zero, i.size, i.bytes)) = some (some (.agg #[.pointer none, .pointer none, .int .i64 0]), 3, 24) := by kernel_rfl
section
variable {ops : Array Oper} {rest : List Oper} {o : Oper} {a : Act} {Q : Exit → Act → World → Prop} {K : Act → World → Prop}
theorem append_event {P : Program} {W w1 : World} (s x : Operand) (t t' : TypeId) (ho : o.op = .call { callee := .builtin .append, args := #[s, x], argTypes := #[t, t'] }) (hgd : o.guard = none) {vs vx v : Value} (hs : a.eval s = vs) (hx : a.eval x = vx)
  (hr : (Builtin.append_ #[t, t'] o.type #[vs, vx]).run P W = .ok v w1) (h : wpList P ops Q rest (a.put o.dst v) w1) : wpList P ops Q (o :: rest) a W := by
 refine wpList_plain hgd fun K hK => ?_
 unfold Oper.wp execOp
 simp only [ho, resolve, invoke, builtin, Sem.run_bind, Sem.run_pure, Result.andThen_ok, List.map_toArray, List.map_cons, List.map_nil, hs, hx, hr]
 exact hK _ _ h
theorem copy_event {P : Program} {W w1 : World} (s x : Operand) (t t' : TypeId) (ho : o.op = .call { callee := .builtin .copy, args := #[s, x], argTypes := #[t, t'] }) (hgd : o.guard = none) {vs vx v : Value} (hs : a.eval s = vs) (hx : a.eval x = vx)
  (hr : (Builtin.copy_ #[t, t'] o.type #[vs, vx]).run P W = .ok v w1) (h : wpList P ops Q rest (a.put o.dst v) w1) : wpList P ops Q (o :: rest) a W := by
 refine wpList_plain hgd fun K hK => ?_
 unfold Oper.wp execOp
 simp only [ho, resolve, invoke, builtin, Sem.run_bind, Sem.run_pure, Result.andThen_ok, List.map_toArray, List.map_cons, List.map_nil, hs, hx, hr]
 exact hK _ _ h
theorem copy_step {P : Program} {W w1 : World} (s x : Operand) (t t' : TypeId) (ho : o.op = .call { callee := .builtin .copy, args := #[s, x], argTypes := #[t, t'] }) (hw : Region.wanted o (yielded ops a.tmps) = true) {vs vx v : Value} (hs : a.eval s = vs) (hx : a.eval x = vx)
  (hr : (Builtin.copy_ #[t, t'] o.type #[vs, vx]).run P W = .ok v w1) {E : Prop} (h : K (a.put o.dst v) w1) : if Region.wanted o (yielded ops a.tmps) = true then Oper.wp P o a W K Q else E := by
 rw [if_pos hw]
 unfold Oper.wp execOp
 simp only [ho, resolve, invoke, builtin, Sem.run_bind, Sem.run_pure, Result.andThen_ok, List.map_toArray, List.map_cons, List.map_nil, hs, hx, hr]
 exact h
end
theorem run_zeros4 (w : World) (ad : Addr) (ty : TypeId) : ∃ c cur, (Builtin.append_ #[135, 3] ty #[.slice (some ad) 0 3, .int .i64 4]).run Tryz.prog w = .ok (.slice (some ⟨w.heap.size, 0, none⟩) 4 c) (w.drew.alloc (.cells cur 145)) ∧ 4 ≤ c ∧ 12 ≤ cur.size := by
 have hi := infoL
 cases hq : Tryz.prog.info? 145 with
 | none => rw [hq] at hi; simp at hi
 | some i =>
  rw [hq] at hi
  simp only [Option.map_some, Option.some.injEq, Prod.mk.injEq] at hi
  obtain ⟨hz, hs, hb⟩ := hi
  have hold : (Builtin.firstCells i.size 0 (.slice (some ad) 0 3)).run Tryz.prog w.drew = .ok ([] : List Value).toArray w.drew := by
   have hl := run_loadCells_list (P := Tryz.prog) w.drew ad [] (by simp)
   simpa [Builtin.firstCells] using hl
  have h := Go.Lib.run_append_grow_zeros (P := Tryz.prog) w 135 3 ty 145 i (.agg #[.pointer none, .pointer none, .int .i64 0]) .i64 .i64 Tryz.underlying135 Tryz.underlying3 hq hz (some ad) 0 3 [] hold 4 (by decide) (by omega) (by decide) (by decide) (by rw [hb]; decide) (by rw [hb]; decide)
  refine ⟨_, _, h, ?_, ?_⟩
  ·have := grownCap_ge w 4 3 145
   simpa using this
  ·have hz3 : (Value.agg #[.pointer none, .pointer none, .int .i64 0]).cells.size = 3 := rfl
   simp [size_zeroCells, hz3]
def CellsL (w : World) (b : Nat) (l : List Slot) : Prop := ∀ j v, (lcl l)[j]? = some v → w.cell? ⟨b, j, none⟩ = some v
theorem lcl_len (l : List Slot) : (lcl l).length = l.length * 3 := by
 induction l with
 | nil => rfl
 | cons s l ih => rw [lcl, List.flatMap_cons, List.length_append, ← lcl, ih, List.length_cons]; simp [sll]; omega
theorem lcl_one (l : List Slot) : ∀ u ∈ lcl l, u.oneCell' = true := by
 intro u hu
 rw [lcl, List.mem_flatMap] at hu
 obtain ⟨s, _, hs⟩ := hu
 simp only [sll, List.mem_cons, List.not_mem_nil, or_false] at hs
 rcases hs with rfl | rfl | rfl <;> rfl
theorem infoL_size : (Tryz.prog.info? 145).map (·.size) = some 3 := by kernel_rfl
theorem add0 (b j : Nat) : (⟨b, 0, none⟩ : Addr).add j = ⟨b, j, none⟩ := by unfold Addr.add; split <;> simp_all
theorem cells_of {w w1 : World} {g : Nat} {l : List Slot} (hg : g < w.heap.size) (hL : CellsL w g l) (hb : Below w.heap.size w w1) : CellsL w1 g l := fun j v hv => by
 have h := hL j v hv
 unfold World.cell? at h ⊢
 rw [hb.block g hg]
 exact h
theorem below_cells {B : Nat} {w0 w : World} (h : Below B w0 w) {b : Nat} (hb : B ≤ b) (o : Nat) (cs : List Value) : Below B w0 (w.setCells b o cs) := by
 obtain ⟨s1, s2, s3, s4⟩ := setCells_same b cs o w
 refine h.trans ⟨s1, s2, s3, by rw [s4]; exact Nat.le_refl _, fun k hk => setCells_far _ _ k (by omega)⟩
theorem cells_set {w : World} {g b o : Nat} {l : List Slot} (hL : CellsL w g l) (hne : g ≠ b) (cs : List Value) : CellsL (w.setCells b o cs) g l := fun j v hv => by
 rw [World.cell?_setCells_out b cs o w _ (fun h _ => absurd h hne)]
 exact hL j v hv
theorem two_rows {w1 : World} {b : Nat} {cur : Array Value} {t : TypeId} (HN : w1.heap[b]? = some (.cells cur t (0, 0))) (hcur : 12 ≤ cur.size) (s : Slot) (l : List Slot) (hl : l.length = 3) :
  (∀ j, j < (lcl l).length → ((w1.setCells b 0 (sll s)).cell? ⟨b, 3 + j, none⟩).isSome = true) ∧ (∀ j, j < (lcl l).length → (w1.setCells b 0 (sll s)).frozen? ⟨b, 3 + j, none⟩ = false) ∧ CellsL ((w1.setCells b 0 (sll s)).drew.setCells b 3 (lcl l)) b (s :: l) := by
 have h9 : (lcl l).length = 9 := by rw [lcl_len, hl]
 have hs : ∀ j, j < 12 → (w1.cell? ⟨b, j, none⟩).isSome = true := fun j hj => by
  rw [blk_cell HN, Array.getElem?_eq_getElem (by omega)]
  rfl
 have h1 : ∀ j, j < (lcl l).length → ((w1.setCells b 0 (sll s)).cell? ⟨b, 3 + j, none⟩).isSome = true := fun j hj => by
  rw [World.cell?_setCells_out b (sll s) 0 w1 _ (fun _ _ => .inr (by show 0 + 3 ≤ 3 + j; omega))]
  exact hs _ (by omega)
 refine ⟨h1, fun j hj => ?_, fun j v hv => ?_⟩
 ·rw [World.frozen?_setCells]
  exact blk_frozen HN _
 ·have hv' : (sll s ++ lcl l)[j]? = some v := by simpa [lcl] using hv
  by_cases hj : j < 3
  ·rw [World.cell?_setCells_out b (lcl l) 3 _ _ (fun _ _ => .inl hj)]
   show (w1.setCells b 0 (sll s)).cell? _ = _
   rw [List.getElem?_append_left (by show j < 3; exact hj)] at hv'
   have h := World.cell?_setCells_in b (sll s) 0 w1 (fun k hk => by rw [Nat.zero_add]; exact hs k (by have : k < 3 := hk; omega)) j hj
   rw [Nat.zero_add] at h
   rw [h, ← hv', List.getElem?_eq_getElem (show j < (sll s).length from hj)]
   rfl
  ·rw [List.getElem?_append_right (by show 3 ≤ j; omega)] at hv'
   have hlt : j - 3 < (lcl l).length := (List.getElem?_eq_some_iff.1 hv').1
   have h := World.cell?_setCells_in b (lcl l) 3 (w1.setCells b 0 (sll s)).drew h1 (j - 3) hlt
   rw [show 3 + (j - 3) = j by omega] at h
   rw [h, ← hv']
   exact (List.getElem?_eq_getElem hlt).symm
set_option maxHeartbeats 4000000 in
theorem insert3_any (l : List Slot) (hl : l.length = 3) (s : Slot) (g h : Nat) (w : World) (hg : g < w.heap.size) (hh : h < w.heap.size) (hL : CellsL w g l) (hS : CellsL w h [s]) :
  Calls Tryz.prog 112 #[.slice (some ⟨g, 0, none⟩) 3 3, .int .i64 0, .slice (some ⟨h, 0, none⟩) 1 1] w fun e w' => ∃ b c, e = .returned (.slice (some ⟨b, 0, none⟩) 4 c) ∧ w.heap.size ≤ b ∧ 4 ≤ c ∧ CellsL w' b (s :: l) ∧ Below w.heap.size w w' := by
 have HL := aq_ hL
 have HS := aq_ hS
 have HB := aq_ (Below.refl w.heap.size w)
 clear hL hS
 go_enter Tryz.func112, Tryz.ntmps112
 obtain ⟨i0, hi0, hzz⟩ := Option.map_eq_some_iff.1 infoL
 simp only [Prod.mk.injEq] at hzz
 obtain ⟨_, hz1, _⟩ := hzz
 have k1 := cut_to 135 145 .i64 Tryz.underlying135 hi0 (some ⟨g, 0, none⟩) 3 3 0 (by decide) (by decide) (by decide)
 have k2 := cut_from 135 145 .i64 Tryz.underlying135 hi0 3 hz1 (some ⟨g, 0, none⟩) 3 3 0 (by decide) (by decide)
 have K3 := aq_ (fun A c => cut_from (P := Tryz.prog) 135 145 .i64 Tryz.underlying135 hi0 3 hz1 A 4 c 0 (by decide) (by decide))
 have K4 := aq_ (fun A c => cut_from (P := Tryz.prog) 135 145 .i64 Tryz.underlying135 hi0 3 hz1 A 4 c 1 (by decide) (by decide))
 clear hi0 hz1
 obtain ⟨cp, cur, hrun, hcp, hcur⟩ := run_zeros4 w ⟨g, 0, none⟩ 135
 have HR := aq_ hrun
 clear hrun
 go_upto_region 9 with (fail)
 go_upto_region 10 with (first
  | ((with_reducible refine gate_builtin (b := .append) (xs := #[.tmp 34, .tmp 39]) rfl ?_); at_builtin; go_loud (refine append_event (.tmp 34) (.tmp 39) 135 3 rfl rfl rfl rfl HR.out ?_)))
 obtain ⟨w1, hw1⟩ : ∃ w1, w1 = (w.alloc (.cells cur 145)).drew := ⟨_, rfl⟩
 rw [← hw1]
 have HN := aq_ (show w1.heap[w.heap.size]? = some (.cells cur 145 (0, 0)) by rw [hw1]; exact blk_drew (blk_new w _))
 have HB1 := aq_ (show Below w.heap.size w w1 by rw [hw1]; exact below_drew (below_alloc (Below.refl w.heap.size w) _))
 have HG1 := aq_ (cells_of hg HL.out HB1.out)
 have HH1 := aq_ (cells_of hh HS.out HB1.out)
 clear hw1
 have k3 : ∀ W : World, (Instr.slice 135 (.slice (some ⟨w.heap.size, 0, none⟩) 4 cp) (some (.int .i64 0)) none none).run Tryz.prog W = .ok (.slice (some ⟨w.heap.size, 0, none⟩) 4 cp) W := by
  intro W
  rw [K3.out (some ⟨w.heap.size, 0, none⟩) cp W]
  simp [Addr.add]
 have k4 : ∀ W : World, (Instr.slice 135 (.slice (some ⟨w.heap.size, 0, none⟩) 4 cp) (some (.int .i64 1)) none none).run Tryz.prog W = .ok (.slice (some ⟨w.heap.size, 3, none⟩) 3 (cp - 1)) W := by
  intro W
  rw [K4.out (some ⟨w.heap.size, 0, none⟩) cp W]
  have h1 : ¬ cp = 1 := by omega
  simp [Addr.add, h1]
 have hc1 := run_copy_rows (P := Tryz.prog) w1 135 135 3 145 w.heap.size 0 4 cp ⟨h, 0, none⟩ 1 1 3 1 (sll s) Tryz.underlying135 infoL_size (by decide) rfl (fun j v hv => by rw [add0]; exact HH1.out j v (by simpa [lcl] using hv)) (fun j hj => by rw [blk_cell HN.out, Nat.zero_add, Array.getElem?_eq_getElem (by have : j < 3 := hj; omega)]; rfl) (fun j hj => blk_frozen HN.out _) (fun v hv => lcl_one [s] v (by simpa [lcl] using hv))
 have HC1 := aq_ hc1
 clear hc1
 go_upto_region 11 with (first
  | ((with_reducible refine gate_builtin (b := .copy) (xs := #[.tmp 43, .tmp 44]) rfl ?_); go_loud (refine copy_event (.tmp 43) (.tmp 44) 135 135 rfl rfl rfl rfl HC1.out ?_)))
 obtain ⟨q1, q2, q3⟩ := two_rows HN.out hcur s l hl
 have hgb : g ≠ w.heap.size := by omega
 have hc2 := run_copy_rows (P := Tryz.prog) (w1.setCells w.heap.size 0 (sll s)).drew 135 135 3 145 w.heap.size 3 3 (cp - 1) ⟨g, 0, none⟩ 3 3 3 3 (lcl l) Tryz.underlying135 infoL_size (by decide) (by rw [lcl_len, hl]) (fun j v hv => by rw [add0]; exact cells_set HG1.out hgb (sll s) j v hv) q1 q2 (lcl_one l)
 have HC2 := aq_ hc2
 have Q3 := aq_ q3
 have HB3 := aq_ (below_cells (below_drew (below_cells HB1.out (Nat.le_refl _) 0 (sll s))) (Nat.le_refl _) 3 (lcl l))
 clear hc2 q1 q2 q3
 have hw1 : IntKind.i64.wrap 1 = 1 := by decide
 clear k1 HL HS HB HB1 HH1 HR HC1 K3 K4
 refine start_ (n := 9) (S := fun w' => True) (ds := []) #[false, false, false, false, false, false, false, false, false] (by kernel_rfl) rfl rfl trivial (fun hHeld => ?_)
 refine pu_ 0 (some 46) ?_ (bt_ 9 1) rfl rfl (Or.inl ⟨by rfl, ?_⟩) ?_ ?_ ?_;rotate_left;(intro w';go_simp;with_reducible rfl);rotate_left;(simp only [pt_];rfl)
 refine pu_ 1 (some 47) ?_ (bt_ 9 3) rfl rfl (Or.inl ⟨by rfl, ?_⟩) ?_ ?_ ?_;rotate_left;(intro w';go_simp;with_reducible rfl);rotate_left;(simp only [pt_];rfl)
 refine pu_ 2 (some 48) ?_ (bt_ 9 7) rfl rfl (Or.inl ⟨by rfl, ?_⟩) ?_ ?_ ?_;rotate_left;(intro w';go_simp;with_reducible rfl);rotate_left;(simp only [pt_];rfl)
 refine pu_ 3 (some 49) ?_ (bt_ 9 15) rfl rfl (Or.inl ⟨by rfl, ?_⟩) ?_ ?_ ?_;rotate_left;(intro w';go_simp;with_reducible rfl);rotate_left;(simp only [pt_];rfl)
 refine pu_ 4 (some 50) ?_ (bt_ 9 31) rfl rfl (Or.inl ⟨by rfl, ?_⟩) ?_ ?_ ?_;rotate_left;(intro w';go_simp;with_reducible rfl);rotate_left;(simp only [pt_];rfl)
 refine pu_ 5 (some 51) ?_ (bt_ 9 63) rfl rfl (Or.inl ⟨by rfl, ?_⟩) ?_ ?_ ?_;rotate_left;(intro w';go_simp;with_reducible rfl);rotate_left;(simp only [pt_];rfl)
 refine pu_ 6 (some 52) ?_ (bt_ 9 127) rfl rfl (Or.inl ⟨by rfl, ?_⟩) ?_ ?_ ?_;rotate_left;(intro w';go_simp;with_reducible rfl);rotate_left;(simp only [pt_];rfl)
 refine pu_ 7 (some 53) ?_ (bt_ 9 255) rfl rfl (Or.inl ⟨by rfl, ?_⟩) ?_ ?_ ?_;rotate_left;(intro w';go_simp;with_reducible rfl);rotate_left;(simp only [pt_];rfl)
 refine one_ (i := 8) (N := some 54) (bt_ 9 511) rfl rfl (by kernel_rfl) (by decide) (fun K hK => ?_)
 refine copy_step (.tmp 50) (.tmp 53) 135 135 rfl (by rfl) rfl rfl HC2.out ?_
 refine hK.out _ _ trivial (fun hHeld => ?_)
 clear hK K
 refine norm_ (a' := ?_) ?_ ?_
 rotate_left
 ·show Act.put _ (some 54) _ = _
  simp only [pt_]
  rfl
 refine done_ (by kernel_rfl) ?_
 have hdone : True := trivial
 clear k2 k3 k4 hw1
 go_wp2
 go_ret
 exact ⟨_, _, rfl, Nat.le_refl _, hcp, Q3.out, HB3.out⟩
theorem rows_of1 {w : World} {h : Nat} {s : Slot} (hS : CellsL w h [s]) : kL.C w (some ⟨h, 0, none⟩) 1 [s] := by
 refine ⟨rfl, by decide, fun _ => ⟨⟨h, 0, none⟩, rfl, fun j p hp => ?_⟩⟩
 have hj : j = 0 := by
  have := (List.getElem?_eq_some_iff.1 hp).1
  simp at this
  exact this
 subst hj
 have e : p = s := by simpa using hp.symm
 subst e
 refine ⟨sll p, rfl, rfl, fun q u hu => ?_⟩
 rw [add0, Nat.zero_mul, Nat.zero_add]
 exact hS q u (by simpa [lcl] using hu)
theorem cells_of1 {w : World} {base : Nat} {ok : Nat → Prop} {v : Value} {s : Slot} (HO : kL.R 145 w base ok v [s]) : ∃ b c, v = .slice (some ⟨b, 0, none⟩) 1 c ∧ base ≤ b ∧ 1 ≤ c ∧ CellsL w b [s] := by
 have HO' := HO
 obtain ⟨hok, inner, ⟨hlen, hor⟩, hr⟩ := HO'
 rcases hor with ⟨hv, hn⟩ | ⟨g, cap, cur, hv, hb, hh, hnc, hcm, hcs, htake⟩
 ·simp at hn
 ·subst hv
  refine ⟨g, cap, rfl, hb, by simpa using hnc, fun j u hu => ?_⟩
  obtain ⟨c, hcl, hcM, hcc, _⟩ := Kd.R_elem HO ⟨none, none, 0⟩ 0 (by decide) (by simp)
  have hc : c = sll s := hcM
  subst hc
  have h := hcc j u (by simpa [lcl] using hu)
  simpa using h
set_option maxHeartbeats 2000000 in
theorem insert0_any (s : Slot) (h : Nat) (w : World) (hh : h < w.heap.size) (hS : CellsL w h [s]) :
  Calls Tryz.prog 112 #[.slice none 0 0, .int .i64 0, .slice (some ⟨h, 0, none⟩) 1 1] w fun e w' => ∃ b c, e = .returned (.slice (some ⟨b, 0, none⟩) 1 c) ∧ w.heap.size ≤ b ∧ 1 ≤ c ∧ CellsL w' b [s] ∧ Below w.heap.size w w' := by
 have HC := aq_ (rows_of1 hS)
 have HB := aq_ (Below.refl w.heap.size w)
 clear hS
 go_enter Tryz.func112, Tryz.ntmps112
 go_wp2_with (first
  | ((with_reducible refine gate_builtin (b := .append) (xs := #[.tmp 23, .tmp 24]) rfl ?_); at_builtin; go_loud (refine Kd.R_append_rows kL (w0 := w) w.heap.size rfl (.tmp 23) (.tmp 24) 135 145 (.agg #[.pointer none, .pointer none, .int .i64 0]) 24 rfl Tryz.underlying135 infoL rfl (by decide) (by omega) (.slice none 0 0) ([] : List Slot) [s] _ _ _ (fun _ => True) (fun _ => False) rfl rfl (Kd.R_nil _ _ _ _ _) HC.out (fun _ _ h => h) (fun _ h => h.elim) (fun _ _ => trivial) HB.out (Nat.le_refl _) (by decide) ?_); intro v1 w1 ho hb hg hat; have HO1 := aq_ ho; have HB1 := aq_ hb; clear ho hb hg hat))
 obtain ⟨b, c, h1, h2, h3, h4⟩ := cells_of1 HO1.out
 subst h1
 go_ret
 exact ⟨b, c, rfl, h2, h3, h4, HB1.out⟩
def fN (g i : Nat) (k : Int) : Slot := ⟨some ⟨g, i, none⟩, none, k⟩
def fU (g i : Nat) (k : Int) : Slot := ⟨none, some ⟨g, i, none⟩, k⟩
theorem cells_new (w : World) (l : List Slot) (t : TypeId) : CellsL (w.alloc (.cells (lcl l).toArray t)) w.heap.size l := fun j v hv => by
 rw [blk_cell (blk_new w _) j, List.getElem?_toArray]
 exact hv
set_option maxHeartbeats 2000000 in
theorem slots_6 (g : Nat) (w : World) (hg : g < w.heap.size) (hk : w.cell? ⟨g, 0, none⟩ = some (.int .i64 6)) :
  Calls Tryz.prog 109 #[.pointer (some ⟨g, 0, none⟩)] w fun e w' => ∃ b c, e = .returned (.tuple #[.slice (some ⟨b, 0, none⟩) 1 c, .bool false]) ∧ w.heap.size ≤ b ∧ 1 ≤ c ∧ CellsL w' b [fN g 6 1] ∧ Below w.heap.size w w' := by
 have HB := aq_ (Below.refl w.heap.size w)
 go_enter Tryz.func109, Tryz.ntmps109
 go_wp2
 go_ret2
 exact ⟨_, _, rfl, Nat.le_refl _, Nat.le_refl _, cells_new w [fN g 6 1] _, below_alloc HB.out _⟩
set_option maxHeartbeats 2000000 in
theorem slots_0 (g : Nat) (w : World) (hg : g < w.heap.size) (hk : w.cell? ⟨g, 0, none⟩ = some (.int .i64 0)) :
  Calls Tryz.prog 109 #[.pointer (some ⟨g, 0, none⟩)] w fun e w' => ∃ b c, e = .returned (.tuple #[.slice (some ⟨b, 0, none⟩) 2 c, .bool false]) ∧ w.heap.size ≤ b ∧ 2 ≤ c ∧ CellsL w' b [fN g 1 1, fU g 3 8] ∧ Below w.heap.size w w' := by
 have HB := aq_ (Below.refl w.heap.size w)
 go_enter Tryz.func109, Tryz.ntmps109
 go_upto_region 10 with (fail)
 go_region
 go_wp2
 go_ret2
 exact ⟨_, _, rfl, Nat.le_refl _, Nat.le_refl _, cells_new _ [fN g 1 1, fU g 3 8] _, below_alloc (below_drew HB.out) _⟩
set_option maxHeartbeats 2000000 in
theorem slots_1 (g : Nat) (w : World) (hg : g < w.heap.size) (hk : w.cell? ⟨g, 0, none⟩ = some (.int .i64 1)) :
  Calls Tryz.prog 109 #[.pointer (some ⟨g, 0, none⟩)] w fun e w' => ∃ b c, e = .returned (.tuple #[.slice (some ⟨b, 0, none⟩) 2 c, .bool false]) ∧ w.heap.size ≤ b ∧ 2 ≤ c ∧ CellsL w' b [fU g 2 8, fN g 4 4] ∧ Below w.heap.size w w' := by
 have HB := aq_ (Below.refl w.heap.size w)
 go_enter Tryz.func109, Tryz.ntmps109
 go_upto_region 11 with (fail)
 go_region
 go_wp2
 go_ret2
 exact ⟨_, _, rfl, Nat.le_refl _, Nat.le_refl _, cells_new _ [fU g 2 8, fN g 4 4] _, below_alloc (below_drew HB.out) _⟩
theorem size_al (w : World) (o : Obj) : (w.alloc o).heap.size = w.heap.size + 1 := Array.size_push _
theorem lt_al (w : World) (o : Obj) : w.heap.size < (w.alloc o).heap.size := by rw [size_al]; exact Nat.lt_succ_self _
theorem le_al {w : World} {o : Obj} {b : Nat} (h : (w.alloc o).heap.size ≤ b) : w.heap.size ≤ b := Nat.le_of_lt (Nat.lt_of_lt_of_le (lt_al w o) h)
def kfrm (k : Int) : Frm := ⟨k, 0, 0, 0, 0, 0, 0, 0, zkey⟩
theorem build_F (k : Int) (w : World) : (Instr.build 31 #[(0, .int .i64 k)]).run Tryz.prog w = .ok (.agg (fca (kfrm k))) w := by kernel_rfl
theorem run_allocF (w : World) : (Instr.alloc 31 true (.tuple #[])).run Tryz.prog w = .ok (.pointer (some ⟨w.heap.size, 0, none⟩)) (w.alloc (.cells (fca zfrm) 31)) := by kernel_rfl
section
variable {ops : Array Oper} {rest : List Oper} {o : Oper} {a : Act} {w : World} {Q : Exit → Act → World → Prop} {K : Act → World → Prop}
theorem run_boxF (w : World) (f : Frm) : (Instr.box 31 (.agg (fca f))).run Tryz.prog w = .ok (.pointer (some ⟨w.heap.size, 0, none⟩)) (w.alloc (.cells (fca f) 31)) := by kernel_rfl
theorem alloc_Fr (ho : o.op = .alloc 31) (hgd : o.guard = none) (h : ∀ g, g = w.heap.size → ∀ w1 : World, w1.heap[g]? = some (.cells (fca zfrm) 31 (0, 0)) → Below w.heap.size w w1 → wpList Tryz.prog ops Q rest (a.put o.dst (.pointer (some ⟨g, 0, none⟩))) w1) : wpList Tryz.prog ops Q (o :: rest) a w := by
 refine Kd.event_run hgd (v := .pointer (some ⟨w.heap.size, 0, none⟩)) ?_ (h _ rfl (w.alloc (.cells (fca zfrm) 31)) (blk_new w _) (below_alloc (Below.refl _ _) _))
 unfold execOp
 simp only [ho, Sem.run_bind, run_allocF, Result.andThen_ok, Sem.run_pure]
theorem box_Fr (x : Operand) {f : Frm} (ho : o.op = .box 31 x) (hgd : o.guard = none) (hx : a.eval x = .agg (fca f)) (h : ∀ g, g = w.heap.size → ∀ w1 : World, w1.heap[g]? = some (.cells (fca f) 31 (0, 0)) → Below w.heap.size w w1 → wpList Tryz.prog ops Q rest (a.put o.dst (.pointer (some ⟨g, 0, none⟩))) w1) : wpList Tryz.prog ops Q (o :: rest) a w := by
 refine Kd.event_run hgd (v := .pointer (some ⟨w.heap.size, 0, none⟩)) ?_ (h _ rfl (w.alloc (.cells (fca f) 31)) (blk_new w _) (below_alloc (Below.refl _ _) _))
 unfold execOp
 simp only [ho, hx, Sem.run_bind, run_boxF, Result.andThen_ok, Sem.run_pure]
theorem build_Fr (x : Operand) (ho : o.op = .build 31 #[(0, x)]) (hgd : o.guard = none) {k : Int} (hx : a.eval x = .int .i64 k) (h : wpList Tryz.prog ops Q rest (a.put o.dst (.agg (fca (kfrm k)))) w) : wpList Tryz.prog ops Q (o :: rest) a w := by
 refine Kd.event_run hgd (v := .agg (fca (kfrm k))) ?_ h
 unfold execOp
 simp only [ho, List.map_toArray, List.map_cons, List.map_nil, hx, Sem.run_bind, build_F, Result.andThen_ok, Sem.run_pure]
theorem store_Fr2 (x y : Operand) (ho : o.op = .store 31 x y) (hgd : o.guard = none) (hN : o.dst = none) {g : Nat} {s old : Frm} (hx : a.eval x = .pointer (some ⟨g, 0, none⟩)) (hy : a.eval y = .agg (fca s)) (hg : w.heap[g]? = some (.cells (fca old) 31 (0, 0)))
  (h : ∀ w1 : World, w1.heap[g]? = some (.cells (fca s) 31 (0, 0)) → w1.heap.size = w.heap.size → (∀ B, B ≤ g → Below B w w1) → wpList Tryz.prog ops Q rest a w1) : wpList Tryz.prog ops Q (o :: rest) a w := by
 refine wpList_store_row hgd 31 x y ho g (fca s) hx hy 31 (fca old) hg (by rw [infoF, fca_size]) (by rw [fca_size, fca_size]) ?_ ?_
 ·rw [Array.all_eq_true_iff_forall_mem]
  intro u hu
  exact fcl_one s u (by simpa [fca] using hu)
 ·rw [hN]
  refine h _ (setRow_heap _ _ _ _ _ _ hg) (size_setRow _ _ _) (fun B hB => ?_)
  have hb := Below.refl B w
  refine ⟨hb.os, hb.tape, hb.output, (by simpa only [size_setRow] using hb.size), fun k hk => ?_⟩
  rw [setRow_other _ _ _ _ (by omega)]
end
theorem ret_Fr {tmps : Array Value} {w : World} {fn : Func} {p : Tmp} (h : fn.results = #[.cell p 31]) {g : Nat} {s : Frm} (hp : tmps.getD p undef = .pointer (some ⟨g, 0, none⟩)) (hg : w.heap[g]? = some (.cells (fca s) 31 (0, 0))) :
  (results fn tmps).run Tryz.prog w = .ok (.agg (fca s)) w :=
 results_cell_row h tmps w g 31 (fca s) (0, 0) _ hp hg Tryz.underlying31 rfl (by rw [infoF, fca_size])
def kca (k : Key) : Array Value := (k.1.map (Value.int .u8)).toArray
theorem kca_size (k : Key) : (kca k).size = 32 := by
 have := k.2
 simp [kca, this]
theorem kca_one (k : Key) : ∀ v ∈ (kca k).toList, v.oneCell' = true := by
 intro v hv
 simp only [kca, List.mem_map] at hv
 obtain ⟨a, _, rfl⟩ := hv
 rfl
theorem infoI : (Tryz.prog.info? 29).map (·.size) = some 32 := by kernel_rfl
theorem run_loadI {w : World} {p : Addr} {k : Key} (hc : ∀ j v, (kca k).toList[j]? = some v → w.cell? (p.add j) = some v) : (loadVar 29 p).run Tryz.prog w = .ok (.agg (kca k)) w := by
 have hl := run_loadCells_list (P := Tryz.prog) w p (kca k).toList hc
 rw [Array.length_toList, kca_size] at hl
 have hi := infoI
 cases hq : Tryz.prog.info? 29 with
 | none => rw [hq] at hi; simp at hi
 | some i =>
  have hs : i.size = 32 := by simpa [hq] using hi
  have hagg : (isAgg 29).run Tryz.prog w = .ok true w := by
   unfold isAgg
   rw [Sem.run_bind, run_underlying Tryz.underlying29 w]
   simp
  simp [loadVar, Sem.run_bind, hagg, sizeOf, typeInfo, hq, hs, hl]
theorem setCells_heap {g : Nat} {t : TypeId} : ∀ (vs : List Value) (o : Nat) (w : World) (cs : Array Value), w.heap[g]? = some (.cells cs t (0, 0)) → (w.setCells g o vs).heap[g]? = some (.cells ((vs.zipIdx o).foldl (fun (cs : Array Value) (p : Value × Nat) => cs.setIfInBounds p.2 p.1) cs) t (0, 0))
 | [], _, _, _, h => h
 | v :: r, o, w, cs, h => by
  rw [World.setCells, List.zipIdx_cons, List.foldl_cons]
  exact setCells_heap r (o + 1) _ _ (blk_set h o v)
theorem run_storeI {w : World} {g o : Nat} {k : Key} (hc : ∀ j, j < 32 → (w.cell? ⟨g, o + j, none⟩).isSome = true) (hf : ∀ j, j < 32 → w.frozen? ⟨g, o + j, none⟩ = false) : (storeVar 29 ⟨g, o, none⟩ (.agg (kca k))).run Tryz.prog w = .ok () (w.setCells g o (kca k).toList) := by
 have hi := infoI
 have hl : (kca k).toList.length = 32 := by rw [Array.length_toList, kca_size]
 have hst := run_storeCells_cells (P := Tryz.prog) g o (kca k).toList 0 w (by rw [hl]; simpa using hc) (by rw [hl]; simpa using hf) (kca_one k)
 rw [Nat.add_zero] at hst
 cases hq : Tryz.prog.info? 29 with
 | none => rw [hq] at hi; simp at hi
 | some i =>
  have hs : i.size = 32 := by simpa [hq] using hi
  have hz : (Value.agg (kca k)).cells = kca k := rfl
  simp [storeVar, Sem.run_bind, sizeOf, typeInfo, hq, hs, hz, kca_size, hst]
theorem tag_cells {w : World} {g : Nat} {t : TypeId} {f : Frm} (h : w.heap[g]? = some (.cells (fca f) t (0, 0))) : ∀ j v, (kca f.tag).toList[j]? = some v → w.cell? ((⟨g, 8, none⟩ : Addr).add j) = some v := fun j v hv => by
 have hadd : (⟨g, 8, none⟩ : Addr).add j = ⟨g, 8 + j, none⟩ := by unfold Addr.add; split <;> simp_all
 rw [hadd, blk_cell h, fca, List.getElem?_toArray]
 show (fcl f)[8 + j]? = some v
 rw [Nat.add_comm]
 exact hv
section
variable {ops : Array Oper} {rest : List Oper} {o : Oper} {a : Act} {w : World} {Q : Exit → Act → World → Prop} {K : Act → World → Prop}
theorem load_Tg (x : Operand) (ho : o.op = .load 29 x) (hgd : o.guard = none) {g : Nat} {f : Frm} {t : TypeId} (hx : a.eval x = .pointer (some ⟨g, 8, none⟩)) (hg : w.heap[g]? = some (.cells (fca f) t (0, 0)))
  (h : wpList Tryz.prog ops Q rest (a.put o.dst (.agg (kca f.tag))) w) : wpList Tryz.prog ops Q (o :: rest) a w := by
 refine Kd.event_run hgd (v := .agg (kca f.tag)) ?_ h
 unfold execOp
 simp only [ho, hx, Instr.loadAt, Instr.sureAddr, Sem.run_bind, Sem.run_pure, Result.andThen_ok, run_loadI (tag_cells hg)]
theorem store_Tg (x y : Operand) (ho : o.op = .store 29 x y) (hgd : o.guard = none) (hN : o.dst = none) {g : Nat} {f : Frm} {k : Key} {t : TypeId} (hx : a.eval x = .pointer (some ⟨g, 8, none⟩)) (hy : a.eval y = .agg (kca k)) (hg : w.heap[g]? = some (.cells (fca f) t (0, 0)))
  (h : ∀ w1 : World, w1.heap[g]? = some (.cells (fca { f with tag := k }) t (0, 0)) → w1.heap.size = w.heap.size → (∀ B, B ≤ g → Below B w w1) → wpList Tryz.prog ops Q rest a w1) : wpList Tryz.prog ops Q (o :: rest) a w := by
 have hfs : (fca f).size = 40 := fca_size f
 have hr := run_storeI (w := w) (g := g) (o := 8) (k := k) (fun j hj => by rw [blk_cell hg, Array.getElem?_eq_getElem (by omega)]; rfl) (fun j hj => blk_frozen hg _)
 refine wpList_plain hgd fun K hK => ?_
 unfold Oper.wp execOp
 simp only [ho, hx, hy, Instr.storeAt, Instr.sureAddr, Sem.run_bind, Sem.run_pure, Result.andThen_ok, hr]
 refine hK _ _ ?_
 rw [hN]
 refine h _ ?_ (setCells_same g _ 8 w).2.2.2 fun B hB => ?_
 ·have h1 := setCells_heap (kca k).toList 8 w _ hg
  rw [show (fca f) = ((fcl f).take 8 ++ f.tag.1.map (Value.int .u8)).toArray from rfl, fill_all (kca k).toList ((fcl f).take 8) (f.tag.1.map (Value.int .u8)) 8 rfl (by rw [List.length_map, f.tag.2, Array.length_toList, kca_size])] at h1
  exact h1
 ·obtain ⟨s1, s2, s3, s4⟩ := setCells_same g (kca k).toList 8 w
  exact ⟨s1, s2, s3, by rw [s4]; exact Nat.le_refl _, fun i hi => setCells_far _ _ i (by omega)⟩
end
end Go.Proofs.YtdinphnljokigaaGreat.P
end
