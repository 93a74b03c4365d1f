/- Laws for walks over sessions: boxes, elements that are read, stores. -/
import Derived.Test.YtmhphkclgdaajaaHSes
namespace Go.Proofs.Ytmhphkclgdaajaa.P
open Go.RowKit Go.Lib Go.Proofs.YtmhphkclgdaajaaW.PrintWords Go.Proofs.YtmhphkclgdaajaaW.PrintLast Go.Proofs.YtmhphkclgdaajaaW.PrintMore
set_option linter.unusedVariables false
set_option linter.unusedSimpArgs false
theorem infoS : (Try.prog.info? 35).map (·.size) = some 39 := by kernel_rfl
/-- A block that holds a session. -/
theorem cellsS {w : World} {g : Nat} {t : TypeId} {x : Ses} (h : w.heap[g]? = some (.cells (sca x) t (0, 0))) :
    w.cell? ⟨g, 0, none⟩ = some (.int .i64 x.user) ∧ w.cell? ⟨g, 1, none⟩ = some (.int .i64 x.epoch) ∧ w.cell? ⟨g, 2, none⟩ = some (.int .u64 x.draw) ∧ w.cell? ⟨g, 3, none⟩ = some (.int .u64 x.cn) ∧
    w.cell? ⟨g, 36, none⟩ = some (.bool x.isOpen) ∧ w.cell? ⟨g, 37, none⟩ = some (.int .u64 x.count) ∧ w.cell? ⟨g, 38, none⟩ = some (.int .i64 x.last) := by
  have c : ∀ j v, (scl x)[j]? = some v → w.cell? ⟨g, j, none⟩ = some v := fun j v hv => by
    rw [blk_cell h j, sca, List.getElem?_toArray]
    exact hv
  obtain ⟨h0, h1, h2, h3, h4, h5, h6⟩ := scl_at x
  exact ⟨c _ _ h0, c _ _ h1, c _ _ h2, c _ _ h3, c _ _ h4, c _ _ h5, c _ _ h6⟩
/-- An element of a row of sessions that is read. -/
theorem at_S {w : World} {A : Option Addr} {n : Nat} {l : List Ses} (h : kS.C w A n l) (i : Nat) (hi : i < n) (x : Ses) (hx : l[i]? = some x) :
    ∃ ad, A = some ad ∧ (∀ j v, (scl x)[j]? = some v → w.cell? ((ad.add (i * 39)).add j) = some v) ∧
    w.cell? (ad.add (i * 39)) = some (.int .i64 x.user) ∧ w.cell? ⟨(ad.add (i * 39)).block, (ad.add (i * 39)).off + 1, none⟩ = some (.int .i64 x.epoch) ∧ w.cell? ⟨(ad.add (i * 39)).block, (ad.add (i * 39)).off + 2, none⟩ = some (.int .u64 x.draw) ∧
    w.cell? ⟨(ad.add (i * 39)).block, (ad.add (i * 39)).off + 3, none⟩ = some (.int .u64 x.cn) ∧ w.cell? ⟨(ad.add (i * 39)).block, (ad.add (i * 39)).off + 36, none⟩ = some (.bool x.isOpen) ∧ w.cell? ⟨(ad.add (i * 39)).block, (ad.add (i * 39)).off + 37, none⟩ = some (.int .u64 x.count) ∧
    w.cell? ⟨(ad.add (i * 39)).block, (ad.add (i * 39)).off + 38, none⟩ = some (.int .i64 x.last) := by
  obtain ⟨ad, c, e, _, hK, hc0⟩ := Kd.C_get h zses (i : Int) (by omega) (by omega)
  have hK : c = scl x := by
    have hK' : c = scl (l.getD (i : Int).toNat zses) := hK
    rw [Int.toNat_natCast, List.getD_eq_getElem?_getD, hx] at hK'
    exact hK'
  subst hK
  have hc : ∀ j v, (scl x)[j]? = some v → w.cell? (ad.add (i * 39 + j)) = some v := fun j v hv => hc0 j v hv
  obtain ⟨h0, h1, h2, h3, h4, h5, h6⟩ := scl_at x
  refine ⟨ad, e, fun j v hv => ?_, ?_, ?_, ?_, ?_, ?_, ?_, ?_⟩
  · rw [add_add]
    exact hc j v hv
  · exact hc 0 _ h0
  all_goals (rw [← add_field _ _ _ (by omega)]; first | exact hc _ _ h1 | exact hc _ _ h2 | exact hc _ _ h3 | exact hc _ _ h4 | exact hc _ _ h5 | exact hc _ _ h6)
section
variable {ops : Array Oper} {rest : List Oper} {o : Oper} {a : Act} {w : World} {Q : Exit → Act → World → Prop} {K : Act → World → Prop}
theorem run_loadS {p : Addr} {x : Ses} (hc : ∀ j v, (scl x)[j]? = some v → w.cell? (p.add j) = some v) : (loadVar 35 p).run Try.prog w = .ok (.agg (sca x)) w := by
  have hl := run_loadCells_list (P := Try.prog) w p (scl x) hc
  rw [scl_len] at hl
  have hi := infoS
  cases hq : Try.prog.info? 35 with
  | none => rw [hq] at hi; simp at hi
  | some i =>
    have hs : i.size = 39 := by simpa [hq] using hi
    have hagg : (isAgg 35).run Try.prog w = .ok true w := by
      unfold isAgg
      rw [Sem.run_bind, run_underlying Try.underlying35 w]
      simp
    simp [loadVar, Sem.run_bind, hagg, sizeOf, typeInfo, hq, hs, hl, sca]
theorem exec_loadS (x : Operand) (ho : o.op = .load 35 x) {p : Addr} (hx : a.eval x = .pointer (some p)) {s : Ses} (hc : ∀ j v, (scl s)[j]? = some v → w.cell? (p.add j) = some v) :
    (execOp a.eval o).run Try.prog w = .ok (.value (.agg (sca s))) w := by
  unfold execOp
  simp only [ho, hx, Instr.loadAt, Instr.sureAddr, Sem.run_bind, Sem.run_pure, Result.andThen_ok, run_loadS hc]
theorem cells_box {g : Nat} {t : TypeId} {s : Ses} (h : w.heap[g]? = some (.cells (sca s) t (0, 0))) : ∀ j v, (scl s)[j]? = some v → w.cell? ((⟨g, 0, none⟩ : Addr).add j) = some v := fun j v hv => by
  have hadd : (⟨g, 0, none⟩ : Addr).add j = ⟨g, j, none⟩ := by unfold Addr.add; split <;> simp_all
  rw [hadd, blk_cell h j, sca, List.getElem?_toArray]
  exact hv
/-- A session is loaded. -/
theorem load_S (x : Operand) (ho : o.op = .load 35 x) (hgd : o.guard = none) {p : Addr} (hx : a.eval x = .pointer (some p)) {s : Ses} (hc : ∀ j v, (scl s)[j]? = some v → w.cell? (p.add j) = some v)
    (h : wpList Try.prog ops Q rest (a.put o.dst (.agg (sca s))) w) : wpList Try.prog ops Q (o :: rest) a w := Kd.event_run hgd (exec_loadS x ho hx hc) h
theorem load_S_step (x : Operand) (ho : o.op = .load 35 x) (hw : Region.wanted o (yielded ops a.tmps) = true) {p : Addr} (hx : a.eval x = .pointer (some p)) {s : Ses} (hc : ∀ j v, (scl s)[j]? = some v → w.cell? (p.add j) = some v)
    (h : K (a.put o.dst (.agg (sca s))) w) : if Region.wanted o (yielded ops a.tmps) = true then Oper.wp Try.prog o a w K Q else K (a.put o.dst undef) w := event_step hw (exec_loadS x ho hx hc) h
/-- A session is stored into a box that was made just now. -/
theorem store_S (x y : Operand) (ho : o.op = .store 35 x y) (hgd : o.guard = none) (hN : o.dst = none) {s : Ses} {old : Array Value} (hx : a.eval x = .pointer (some ⟨w.heap.size, 0, none⟩)) (hy : a.eval y = .agg (sca s)) (hold : old.size = 39)
    (h : ∀ w1 : World, w1.heap[w.heap.size]? = some (.cells (sca s) 35 (0, 0)) → Below w.heap.size w w1 → wpList Try.prog ops Q rest a w1) : wpList Try.prog ops Q (o :: rest) a (w.alloc (.cells old 35)) := by
  refine wpList_store_row hgd 35 x y ho w.heap.size (sca s) hx hy 35 old (blk_new w _) (by rw [infoS, sca_size]) (by rw [hold, sca_size]) ?_ ?_
  · rw [Array.all_eq_true_iff_forall_mem]
    intro u hu
    exact scl_one s u (by simpa [sca] using hu)
  · rw [hN]
    refine h _ (setRow_heap _ _ _ _ _ _ (blk_new w _)) ?_
    have hb := below_alloc (Below.refl w.heap.size w) (.cells old 35)
    refine ⟨hb.os, hb.tape, hb.output, (by simpa only [size_setRow] using hb.size), fun k hk => ?_⟩
    rw [setRow_other _ _ _ _ (by omega)]
    exact hb.block k hk
end
theorem fill_all : ∀ (l : List Value) (pre suf : List Value) (n : Nat), n = pre.length → suf.length = l.length →
    (l.zipIdx n).foldl (fun (cs : Array Value) (p : Value × Nat) => cs.setIfInBounds p.2 p.1) (pre ++ suf).toArray = (pre ++ l).toArray := by
  intro l
  induction l with
  | nil => intro pre suf n h1 h2; have : suf = [] := List.length_eq_zero_iff.1 h2; subst this; rfl
  | cons v l ih =>
    intro pre suf n h1 h2
    cases suf with
    | nil => simp at h2
    | cons u suf =>
      rw [List.zipIdx_cons, List.foldl_cons]
      have e : ((pre ++ u :: suf).toArray.setIfInBounds n v) = ((pre ++ [v]) ++ suf).toArray := by
        subst h1
        apply Array.toList_inj.1
        simp [List.set_append]
      show List.foldl _ ((pre ++ u :: suf).toArray.setIfInBounds n v) _ = _
      rw [e, ih (pre ++ [v]) suf (n + 1) (by rw [List.length_append, List.length_singleton, h1]) (by simpa using h2)]
      simp
theorem fill_ses (x : Ses) (cells : Array Value) (hc : cells.size = 39) (size : Nat) (hs : size = 39) : Instr.fill (fun i => some (i * size, size)) cells [(0, .agg (sca x))] = some (sca x) := by
  subst hs
  have hz : (Value.agg (sca x)).cells.size = 39 := sca_size x
  unfold Instr.fill
  simp only [Nat.zero_mul, Nat.zero_add]
  rw [if_neg (by rw [hz, hc]; simp)]
  unfold Instr.fill
  congr 1
  have h := fill_all (scl x) [] cells.toList 0 rfl (by rw [scl_len]; exact hc)
  simp only [List.nil_append, Array.toArray_toList] at h
  show Array.foldl _ cells (sca x).zipIdx = sca x
  rw [← Array.foldl_toList, Array.toList_zipIdx, sca_list]
  exact h
theorem run_buildS (w : World) (x : Ses) : (Instr.buildSlice 22 1 #[(0, .agg (sca x))]).run Try.prog w = .ok (.slice (some ⟨w.heap.size, 0, none⟩) 1 1) (w.alloc (.cells (sca x) 35)) := by
  have hi : (Try.prog.info? 35).map (fun i => (i.size, i.zero.isSome)) = some (39, true) := by kernel_rfl
  cases hq : Try.prog.info? 35 with
  | none => rw [hq] at hi; simp at hi
  | some i =>
    have hs : i.size = 39 ∧ i.zero.isSome = true := by simpa [hq] using hi
    obtain ⟨z, hz⟩ := Option.isSome_iff_exists.1 hs.2
    have hf := fill_ses x ((Array.range (1 * i.size)).map (z.cells[· % z.cells.size]!)) (by simp [hs.1]) i.size hs.1
    rw [hs.1] at hf
    simp [Instr.buildSlice, Sem.run_bind, run_underlying Try.underlying22, sizeOf, typeInfo, zeroValue, hq, hs.1, hz]
    rw [Nat.one_mul] at hf
    rw [hf]
    simp [newRow]
end Go.Proofs.Ytmhphkclgdaajaa.P
