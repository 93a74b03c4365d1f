/- What LawSymAgree rests on, part 13: several texts put together. -/
import Derived.Test.YtdinphnljokigaaGreatS12
import Derived.Test.YtdinphnljokigaaGreatS3
set_option linter.unusedVariables false
set_option linter.unnecessarySimpa false
set_option linter.unusedSimpArgs false
set_option maxRecDepth 100000
section
namespace Go.Proofs.YtdinphnljokigaaGreat.P
open Go.RowKit Go.Lib Go.Proofs.YtdinphnljokigaaGreatW.PrintWords Go.Proofs.YtdinphnljokigaaGreatW.PrintLast Go.Proofs.YtdinphnljokigaaGreatW.PrintMore
theorem size_al (w : World) (o : Obj) : (w.alloc o).heap.size = w.heap.size + 1 := Array.size_push _
theorem lt_al (w : World) (o : Obj) : w.heap.size < (w.alloc o).heap.size := by rw [size_al]; exact Nat.lt_succ_self _
theorem le_al {w : World} {o : Obj} {b : Nat} (h : (w.alloc o).heap.size ≤ b) : w.heap.size ≤ b := Nat.le_of_lt (Nat.lt_of_lt_of_le (lt_al w o) h)
def kfrm (k : Int) : Frm := ⟨k, 0, 0, 0, 0, 0, 0, 0, zkey⟩
theorem build_F (k : Int) (w : World) : (Instr.build 31 #[(0, .int .i64 k)]).run Tryz.prog w = .ok (.agg (fca (kfrm k))) w := by kernel_rfl
theorem run_allocF (w : World) : (Instr.alloc 31 true (.tuple #[])).run Tryz.prog w = .ok (.pointer (some ⟨w.heap.size, 0, none⟩)) (w.alloc (.cells (fca zfrm) 31)) := by kernel_rfl
section
variable {ops : Array Oper} {rest : List Oper} {o : Oper} {a : Act} {w : World} {Q : Exit → Act → World → Prop} {K : Act → World → Prop}
theorem run_boxF (w : World) (f : Frm) : (Instr.box 31 (.agg (fca f))).run Tryz.prog w = .ok (.pointer (some ⟨w.heap.size, 0, none⟩)) (w.alloc (.cells (fca f) 31)) := by kernel_rfl
theorem alloc_Fr (ho : o.op = .alloc 31) (hgd : o.guard = none) (h : ∀ g, g = w.heap.size → ∀ w1 : World, w1.heap[g]? = some (.cells (fca zfrm) 31 (0, 0)) → Below w.heap.size w w1 → wpList Tryz.prog ops Q rest (a.put o.dst (.pointer (some ⟨g, 0, none⟩))) w1) : wpList Tryz.prog ops Q (o :: rest) a w := by
 refine Kd.event_run hgd (v := .pointer (some ⟨w.heap.size, 0, none⟩)) ?_ (h _ rfl (w.alloc (.cells (fca zfrm) 31)) (blk_new w _) (below_alloc (Below.refl _ _) _))
 unfold execOp
 simp only [ho, Sem.run_bind, run_allocF, Result.andThen_ok, Sem.run_pure]
theorem box_Fr (x : Operand) {f : Frm} (ho : o.op = .box 31 x) (hgd : o.guard = none) (hx : a.eval x = .agg (fca f)) (h : ∀ g, g = w.heap.size → ∀ w1 : World, w1.heap[g]? = some (.cells (fca f) 31 (0, 0)) → Below w.heap.size w w1 → wpList Tryz.prog ops Q rest (a.put o.dst (.pointer (some ⟨g, 0, none⟩))) w1) : wpList Tryz.prog ops Q (o :: rest) a w := by
 refine Kd.event_run hgd (v := .pointer (some ⟨w.heap.size, 0, none⟩)) ?_ (h _ rfl (w.alloc (.cells (fca f) 31)) (blk_new w _) (below_alloc (Below.refl _ _) _))
 unfold execOp
 simp only [ho, hx, Sem.run_bind, run_boxF, Result.andThen_ok, Sem.run_pure]
theorem build_Fr (x : Operand) (ho : o.op = .build 31 #[(0, x)]) (hgd : o.guard = none) {k : Int} (hx : a.eval x = .int .i64 k) (h : wpList Tryz.prog ops Q rest (a.put o.dst (.agg (fca (kfrm k)))) w) : wpList Tryz.prog ops Q (o :: rest) a w := by
 refine Kd.event_run hgd (v := .agg (fca (kfrm k))) ?_ h
 unfold execOp
 simp only [ho, List.map_toArray, List.map_cons, List.map_nil, hx, Sem.run_bind, build_F, Result.andThen_ok, Sem.run_pure]
theorem store_Fr2 (x y : Operand) (ho : o.op = .store 31 x y) (hgd : o.guard = none) (hN : o.dst = none) {g : Nat} {s old : Frm} (hx : a.eval x = .pointer (some ⟨g, 0, none⟩)) (hy : a.eval y = .agg (fca s)) (hg : w.heap[g]? = some (.cells (fca old) 31 (0, 0)))
  (h : ∀ w1 : World, w1.heap[g]? = some (.cells (fca s) 31 (0, 0)) → w1.heap.size = w.heap.size → (∀ B, B ≤ g → Below B w w1) → wpList Tryz.prog ops Q rest a w1) : wpList Tryz.prog ops Q (o :: rest) a w := by
 refine wpList_store_row hgd 31 x y ho g (fca s) hx hy 31 (fca old) hg (by rw [infoF, fca_size]) (by rw [fca_size, fca_size]) ?_ ?_
 ·rw [Array.all_eq_true_iff_forall_mem]
  intro u hu
  exact fcl_one s u (by simpa [fca] using hu)
 ·rw [hN]
  refine h _ (setRow_heap _ _ _ _ _ _ hg) (size_setRow _ _ _) (fun B hB => ?_)
  have hb := Below.refl B w
  refine ⟨hb.os, hb.tape, hb.output, (by simpa only [size_setRow] using hb.size), fun k hk => ?_⟩
  rw [setRow_other _ _ _ _ (by omega)]
end
theorem ret_Fr {tmps : Array Value} {w : World} {fn : Func} {p : Tmp} (h : fn.results = #[.cell p 31]) {g : Nat} {s : Frm} (hp : tmps.getD p undef = .pointer (some ⟨g, 0, none⟩)) (hg : w.heap[g]? = some (.cells (fca s) 31 (0, 0))) :
  (results fn tmps).run Tryz.prog w = .ok (.agg (fca s)) w :=
 results_cell_row h tmps w g 31 (fca s) (0, 0) _ hp hg Tryz.underlying31 rfl (by rw [infoF, fca_size])
def kca (k : Key) : Array Value := (k.1.map (Value.int .u8)).toArray
theorem kca_size (k : Key) : (kca k).size = 32 := by
 have := k.2
 simp [kca, this]
theorem kca_one (k : Key) : ∀ v ∈ (kca k).toList, v.oneCell' = true := by
 intro v hv
 simp only [kca, List.mem_map] at hv
 obtain ⟨a, _, rfl⟩ := hv
 rfl
theorem infoI : (Tryz.prog.info? 29).map (·.size) = some 32 := by kernel_rfl
theorem run_loadI {w : World} {p : Addr} {k : Key} (hc : ∀ j v, (kca k).toList[j]? = some v → w.cell? (p.add j) = some v) : (loadVar 29 p).run Tryz.prog w = .ok (.agg (kca k)) w := by
 have hl := run_loadCells_list (P := Tryz.prog) w p (kca k).toList hc
 rw [Array.length_toList, kca_size] at hl
 have hi := infoI
 cases hq : Tryz.prog.info? 29 with
 | none => rw [hq] at hi; simp at hi
 | some i =>
  have hs : i.size = 32 := by simpa [hq] using hi
  have hagg : (isAgg 29).run Tryz.prog w = .ok true w := by
   unfold isAgg
   rw [Sem.run_bind, run_underlying Tryz.underlying29 w]
   simp
  simp [loadVar, Sem.run_bind, hagg, sizeOf, typeInfo, hq, hs, hl]
theorem setCells_heap {g : Nat} {t : TypeId} : ∀ (vs : List Value) (o : Nat) (w : World) (cs : Array Value), w.heap[g]? = some (.cells cs t (0, 0)) → (w.setCells g o vs).heap[g]? = some (.cells ((vs.zipIdx o).foldl (fun (cs : Array Value) (p : Value × Nat) => cs.setIfInBounds p.2 p.1) cs) t (0, 0))
 | [], _, _, _, h => h
 | v :: r, o, w, cs, h => by
  rw [World.setCells, List.zipIdx_cons, List.foldl_cons]
  exact setCells_heap r (o + 1) _ _ (blk_set h o v)
theorem run_storeI {w : World} {g o : Nat} {k : Key} (hc : ∀ j, j < 32 → (w.cell? ⟨g, o + j, none⟩).isSome = true) (hf : ∀ j, j < 32 → w.frozen? ⟨g, o + j, none⟩ = false) : (storeVar 29 ⟨g, o, none⟩ (.agg (kca k))).run Tryz.prog w = .ok () (w.setCells g o (kca k).toList) := by
 have hi := infoI
 have hl : (kca k).toList.length = 32 := by rw [Array.length_toList, kca_size]
 have hst := run_storeCells_cells (P := Tryz.prog) g o (kca k).toList 0 w (by rw [hl]; simpa using hc) (by rw [hl]; simpa using hf) (kca_one k)
 rw [Nat.add_zero] at hst
 cases hq : Tryz.prog.info? 29 with
 | none => rw [hq] at hi; simp at hi
 | some i =>
  have hs : i.size = 32 := by simpa [hq] using hi
  have hz : (Value.agg (kca k)).cells = kca k := rfl
  simp [storeVar, Sem.run_bind, sizeOf, typeInfo, hq, hs, hz, kca_size, hst]
theorem tag_cells {w : World} {g : Nat} {t : TypeId} {f : Frm} (h : w.heap[g]? = some (.cells (fca f) t (0, 0))) : ∀ j v, (kca f.tag).toList[j]? = some v → w.cell? ((⟨g, 8, none⟩ : Addr).add j) = some v := fun j v hv => by
 have hadd : (⟨g, 8, none⟩ : Addr).add j = ⟨g, 8 + j, none⟩ := by unfold Addr.add; split <;> simp_all
 rw [hadd, blk_cell h, fca, List.getElem?_toArray]
 show (fcl f)[8 + j]? = some v
 rw [Nat.add_comm]
 exact hv
section
variable {ops : Array Oper} {rest : List Oper} {o : Oper} {a : Act} {w : World} {Q : Exit → Act → World → Prop} {K : Act → World → Prop}
theorem load_Tg (x : Operand) (ho : o.op = .load 29 x) (hgd : o.guard = none) {g : Nat} {f : Frm} {t : TypeId} (hx : a.eval x = .pointer (some ⟨g, 8, none⟩)) (hg : w.heap[g]? = some (.cells (fca f) t (0, 0)))
  (h : wpList Tryz.prog ops Q rest (a.put o.dst (.agg (kca f.tag))) w) : wpList Tryz.prog ops Q (o :: rest) a w := by
 refine Kd.event_run hgd (v := .agg (kca f.tag)) ?_ h
 unfold execOp
 simp only [ho, hx, Instr.loadAt, Instr.sureAddr, Sem.run_bind, Sem.run_pure, Result.andThen_ok, run_loadI (tag_cells hg)]
theorem store_Tg (x y : Operand) (ho : o.op = .store 29 x y) (hgd : o.guard = none) (hN : o.dst = none) {g : Nat} {f : Frm} {k : Key} {t : TypeId} (hx : a.eval x = .pointer (some ⟨g, 8, none⟩)) (hy : a.eval y = .agg (kca k)) (hg : w.heap[g]? = some (.cells (fca f) t (0, 0)))
  (h : ∀ w1 : World, w1.heap[g]? = some (.cells (fca { f with tag := k }) t (0, 0)) → w1.heap.size = w.heap.size → (∀ B, B ≤ g → Below B w w1) → wpList Tryz.prog ops Q rest a w1) : wpList Tryz.prog ops Q (o :: rest) a w := by
 have hfs : (fca f).size = 40 := fca_size f
 have hr := run_storeI (w := w) (g := g) (o := 8) (k := k) (fun j hj => by rw [blk_cell hg, Array.getElem?_eq_getElem (by omega)]; rfl) (fun j hj => blk_frozen hg _)
 refine wpList_plain hgd fun K hK => ?_
 unfold Oper.wp execOp
 simp only [ho, hx, hy, Instr.storeAt, Instr.sureAddr, Sem.run_bind, Sem.run_pure, Result.andThen_ok, hr]
 refine hK _ _ ?_
 rw [hN]
 refine h _ ?_ (setCells_same g _ 8 w).2.2.2 fun B hB => ?_
 ·have h1 := setCells_heap (kca k).toList 8 w _ hg
  rw [show (fca f) = ((fcl f).take 8 ++ f.tag.1.map (Value.int .u8)).toArray from rfl, fill_all (kca k).toList ((fcl f).take 8) (f.tag.1.map (Value.int .u8)) 8 rfl (by rw [List.length_map, f.tag.2, Array.length_toList, kca_size])] at h1
  exact h1
 ·obtain ⟨s1, s2, s3, s4⟩ := setCells_same g (kca k).toList 8 w
  exact ⟨s1, s2, s3, by rw [s4]; exact Nat.le_refl _, fun i hi => setCells_far _ _ i (by omega)⟩
end
theorem cellsL_alloc {w : World} {g : Nat} {l : List Slot} (h : CellsL w g l) (hg : g < w.heap.size) (o : Obj) : CellsL (w.alloc o) g l := cells_of hg h (below_alloc (Below.refl _ _) o)
theorem cellsL_drew {w : World} {g : Nat} {l : List Slot} (h : CellsL w g l) : CellsL w.drew g l := h
theorem two_al (w : World) (l k : List Slot) (t t' : TypeId) : CellsL ((w.alloc (.cells (lcl l).toArray t)).alloc (.cells (lcl k).toArray t')).drew w.heap.size l ∧ CellsL ((w.alloc (.cells (lcl l).toArray t)).alloc (.cells (lcl k).toArray t')).drew (w.heap.size + 1) k := by
 refine ⟨cellsL_drew (cellsL_alloc (cells_new w l t) (lt_al _ _) _), cellsL_drew ?_⟩
 have h := cells_new (w.alloc (.cells (lcl l).toArray t)) k t'
 rw [size_al] at h
 exact h
theorem lnil_no (ad : Addr) (n c : Nat) (w : World) : Sem.run Tryz.prog (binOp .neq 135 (.slice (some ad) n c) (.slice none 0 0)) w = .ok (.bool true) w := by
 kernel_rfl
set_option maxHeartbeats 2000000 in
theorem slots_2 (g : Nat) (w : World) (hg : g < w.heap.size) (hk : w.cell? ⟨g, 0, none⟩ = some (.int .i64 2)) :
  Calls Tryz.prog 109 #[.pointer (some ⟨g, 0, none⟩)] w fun e w' => ∃ b c, e = .returned (.tuple #[.slice (some ⟨b, 0, none⟩) 1 c, .bool true]) ∧ w.heap.size ≤ b ∧ 1 ≤ c ∧ CellsL w' b [fU g 2 8] ∧ Below w.heap.size w w' := by
 have HB := aq_ (Below.refl w.heap.size w)
 go_enter Tryz.func109, Tryz.ntmps109
 go_upto_region 14 with (fail)
 have HA := aq_ (insert0_any (fU g 2 8) w.heap.size (w.alloc (.cells #[.pointer none, .pointer (some ⟨g, 2, none⟩), .int .i64 8] 145)) (lt_al _ _) (cells_new w [fU g 2 8] _))
 have HB0 := aq_ (below_alloc HB.out (.cells #[.pointer none, .pointer (some ⟨g, 2, none⟩), .int .i64 8] 145))
 have hnn := lnil_no
 go_upto_region 15 with (go_at_call 112; go_loud (with_reducible refine HA.out.mono ?_); rintro e w1 ⟨b, c, rfl, hb, hc, hC, hB⟩; have HB1 := aq_ (below_step HB0.out hB); have HC1 := aq_ hC; have HLE := aq_ hb; have HCC := aq_ hc; clear hC hB hb hc HA HB HB0)
 go_wp2
 go_ret2
 exact ⟨_, _, rfl, le_al HLE.out, HCC.out, HC1.out, HB1.out⟩
set_option maxHeartbeats 2000000 in
theorem slots_3 (g : Nat) (w : World) (hg : g < w.heap.size) (hk : w.cell? ⟨g, 0, none⟩ = some (.int .i64 3)) :
  Calls Tryz.prog 109 #[.pointer (some ⟨g, 0, none⟩)] w fun e w' => ∃ b c, e = .returned (.tuple #[.slice (some ⟨b, 0, none⟩) 1 c, .bool true]) ∧ w.heap.size ≤ b ∧ 1 ≤ c ∧ CellsL w' b [fU g 2 8] ∧ Below w.heap.size w w' := by
 have HB := aq_ (Below.refl w.heap.size w)
 go_enter Tryz.func109, Tryz.ntmps109
 go_upto_region 14 with (fail)
 have HA := aq_ (insert0_any (fU g 2 8) w.heap.size (w.alloc (.cells #[.pointer none, .pointer (some ⟨g, 2, none⟩), .int .i64 8] 145)) (lt_al _ _) (cells_new w [fU g 2 8] _))
 have HB0 := aq_ (below_alloc HB.out (.cells #[.pointer none, .pointer (some ⟨g, 2, none⟩), .int .i64 8] 145))
 have hnn := lnil_no
 go_upto_region 15 with (go_at_call 112; go_loud (with_reducible refine HA.out.mono ?_); rintro e w1 ⟨b, c, rfl, hb, hc, hC, hB⟩; have HB1 := aq_ (below_step HB0.out hB); have HC1 := aq_ hC; have HLE := aq_ hb; have HCC := aq_ hc; clear hC hB hb hc HA HB HB0)
 go_wp2
 go_ret2
 exact ⟨_, _, rfl, le_al HLE.out, HCC.out, HC1.out, HB1.out⟩
set_option maxHeartbeats 4000000 in
theorem slots_4 (g : Nat) (w : World) (hg : g < w.heap.size) (hk : w.cell? ⟨g, 0, none⟩ = some (.int .i64 4)) :
  Calls Tryz.prog 109 #[.pointer (some ⟨g, 0, none⟩)] w fun e w' => ∃ b c, e = .returned (.tuple #[.slice (some ⟨b, 0, none⟩) 4 c, .bool true]) ∧ w.heap.size ≤ b ∧ 4 ≤ c ∧ CellsL w' b [fU g 2 8, fU g 5 8, fN g 6 1, fN g 7 2] ∧ Below w.heap.size w w' := by
 have HB := aq_ (Below.refl w.heap.size w)
 go_enter Tryz.func109, Tryz.ntmps109
 go_upto_region 13 with (fail)
 go_region
 go_upto_region 14 with (fail)
 have hL := two_al w [fU g 5 8, fN g 6 1, fN g 7 2] [fU g 2 8] 145 145
 have HA := aq_ (insert3_any [fU g 5 8, fN g 6 1, fN g 7 2] rfl (fU g 2 8) w.heap.size (w.heap.size + 1) _ (by show _ < (World.alloc _ _).heap.size; rw [size_al, size_al]; omega) (by show _ < (World.alloc _ _).heap.size; rw [size_al, size_al]; omega) hL.1 hL.2)
 have HB0 := aq_ (below_drew (below_alloc (below_alloc HB.out (.cells (lcl [fU g 5 8, fN g 6 1, fN g 7 2]).toArray 145)) (.cells (lcl [fU g 2 8]).toArray 145)))
 clear hL
 have hnn := lnil_no
 go_upto_region 15 with (go_at_call 112; go_loud (refine HA.out.mono ?_); rintro e w1 ⟨b, c, rfl, hb, hc, hC, hB⟩; have HB1 := aq_ (below_step HB0.out hB); have HC1 := aq_ hC; have HLE := aq_ hb; have HCC := aq_ hc; clear hC hB hb hc HA HB HB0)
 go_wp2
 go_ret2
 exact ⟨_, _, rfl, le_al (le_al HLE.out), HCC.out, HC1.out, HB1.out⟩
set_option maxHeartbeats 4000000 in
theorem slots_5 (g : Nat) (w : World) (hg : g < w.heap.size) (hk : w.cell? ⟨g, 0, none⟩ = some (.int .i64 5)) :
  Calls Tryz.prog 109 #[.pointer (some ⟨g, 0, none⟩)] w fun e w' => ∃ b c, e = .returned (.tuple #[.slice (some ⟨b, 0, none⟩) 4 c, .bool true]) ∧ w.heap.size ≤ b ∧ 4 ≤ c ∧ CellsL w' b [fU g 2 8, fU g 5 8, fN g 6 1, fN g 7 2] ∧ Below w.heap.size w w' := by
 have HB := aq_ (Below.refl w.heap.size w)
 go_enter Tryz.func109, Tryz.ntmps109
 go_upto_region 13 with (fail)
 go_region
 go_upto_region 14 with (fail)
 have hL := two_al w [fU g 5 8, fN g 6 1, fN g 7 2] [fU g 2 8] 145 145
 have HA := aq_ (insert3_any [fU g 5 8, fN g 6 1, fN g 7 2] rfl (fU g 2 8) w.heap.size (w.heap.size + 1) _ (by show _ < (World.alloc _ _).heap.size; rw [size_al, size_al]; omega) (by show _ < (World.alloc _ _).heap.size; rw [size_al, size_al]; omega) hL.1 hL.2)
 have HB0 := aq_ (below_drew (below_alloc (below_alloc HB.out (.cells (lcl [fU g 5 8, fN g 6 1, fN g 7 2]).toArray 145)) (.cells (lcl [fU g 2 8]).toArray 145)))
 clear hL
 have hnn := lnil_no
 go_upto_region 15 with (go_at_call 112; go_loud (refine HA.out.mono ?_); rintro e w1 ⟨b, c, rfl, hb, hc, hC, hB⟩; have HB1 := aq_ (below_step HB0.out hB); have HC1 := aq_ hC; have HLE := aq_ hb; have HCC := aq_ hc; clear hC hB hb hc HA HB HB0)
 go_wp2
 go_ret2
 exact ⟨_, _, rfl, le_al (le_al HLE.out), HCC.out, HC1.out, HB1.out⟩
def slotsK (k : Int) : List (Bool × Nat × Int) :=
 if k = 0 then [(true, 1, 1), (false, 3, 8)] else if k = 1 then [(false, 2, 8), (true, 4, 4)] else if k = 2 ∨ k = 3 then [(false, 2, 8)] else if k = 4 ∨ k = 5 then [(false, 2, 8), (false, 5, 8), (true, 6, 1), (true, 7, 2)] else if k = 6 then [(true, 6, 1)] else []
def slotAt (g : Nat) (s : Bool × Nat × Int) : Slot := if s.1 = true then fN g s.2.1 s.2.2 else fU g s.2.1 s.2.2
def tagK (k : Int) : Bool := decide (2 ≤ k) && decide (k ≤ 5)
theorem slots_any (g : Nat) (k : Int) (w : World) (hk0 : 0 ≤ k) (hk6 : k ≤ 6) (hg : g < w.heap.size) (hk : w.cell? ⟨g, 0, none⟩ = some (.int .i64 k)) :
  Calls Tryz.prog 109 #[.pointer (some ⟨g, 0, none⟩)] w fun e w' => ∃ b c, e = .returned (.tuple #[.slice (some ⟨b, 0, none⟩) (slotsK k).length c, .bool (tagK k)]) ∧ w.heap.size ≤ b ∧ (slotsK k).length ≤ c ∧ CellsL w' b ((slotsK k).map (slotAt g)) ∧ Below w.heap.size w w' := by
 have h : k = 0 ∨ k = 1 ∨ k = 2 ∨ k = 3 ∨ k = 4 ∨ k = 5 ∨ k = 6 := by omega
 rcases h with rfl | rfl | rfl | rfl | rfl | rfl | rfl
 ·exact slots_0 g w hg hk
 ·exact slots_1 g w hg hk
 ·exact slots_2 g w hg hk
 ·exact slots_3 g w hg hk
 ·exact slots_4 g w hg hk
 ·exact slots_5 g w hg hk
 ·exact slots_6 g w hg hk
def bareF (f : Frm) : Frm :=
 if f.kind = 0 then { zfrm with kind := f.kind, user := f.user, cn := f.cn } else
 if f.kind = 1 then { zfrm with kind := f.kind, sess := f.sess, epoch := f.epoch } else
 if f.kind = 2 ∨ f.kind = 3 then { zfrm with kind := f.kind, sess := f.sess, tag := f.tag } else
 if f.kind = 4 ∨ f.kind = 5 then { zfrm with kind := f.kind, sess := f.sess, count := f.count, cmd := f.cmd, arg := f.arg, tag := f.tag } else
 { zfrm with kind := f.kind, cmd := f.cmd }
theorem blk_below0 {w w1 : World} {g B : Nat} {o : Obj} (h : w.heap[g]? = some o) (hb : Below B w w1) (hg : g < B) : w1.heap[g]? = some o := (hb.block g hg).trans h
theorem kind_of {w : World} {g : Nat} {t : TypeId} {k : Int} (h : w.heap[g]? = some (.cells (fca (kfrm k)) t (0, 0))) : w.cell? ⟨g, 0, none⟩ = some (.int .i64 k) := (cellsF h).1
theorem lcl_get (l : List Slot) (i : Nat) (s : Slot) (h : l[i]? = some s) (j : Nat) (u : Value) (hu : (sll s)[j]? = some u) : (lcl l)[i * 3 + j]? = some u := by
 induction l generalizing i with
 | nil => simp at h
 | cons x l ih =>
  have hj : j < 3 := (List.getElem?_eq_some_iff.1 hu).1
  have hs : (sll x).length = 3 := rfl
  cases i with
  | zero =>
   have e : x = s := by simpa using h
   subst e
   show (sll x ++ lcl l)[0 * 3 + j]? = _
   rw [Nat.zero_mul, Nat.zero_add, List.getElem?_append_left (by omega)]
   exact hu
  | succ i =>
   show (sll x ++ lcl l)[(i + 1) * 3 + j]? = _
   rw [List.getElem?_append_right (by omega), show (i + 1) * 3 + j - (sll x).length = i * 3 + j by rw [hs]; omega]
   exact ih i (by simpa using h)
theorem F_cells {w : World} {b : Nat} {l : List Slot} (h : CellsL w b l) (hl : l.length ≤ 1000) : Kd.F kL w (fun k => k = b) (some ⟨b, 0, none⟩) l.length l := by
 intro W' hW
 refine ⟨rfl, by omega, fun _ => ⟨⟨b, 0, none⟩, rfl, fun i p hp => ⟨sll p, rfl, rfl, fun j u hu => ?_⟩⟩⟩
 have hc := h (i * 3 + j) u (lcl_get l i p hp j u hu)
 have hlt := World.block_lt_of_cell? w _ hc
 show W'.cell? ((⟨b, 0, none⟩ : Addr).add (i * 3 + j)) = some u
 rw [add0]
 unfold World.cell? at hc ⊢
 rw [hW b rfl hlt]
 exact hc
theorem at_L {w : World} {A : Option Addr} {n : Nat} {l : List Slot} (h : kL.C w A n l) (i : Nat) (hi : i < n) (s : Slot) (hs : l[i]? = some s) :
  ∃ ad, A = some ad ∧ w.cell? (ad.add (i * 3)) = some (.pointer s.n) ∧ w.cell? ⟨(ad.add (i * 3)).block, (ad.add (i * 3)).off + 1, none⟩ = some (.pointer s.u) ∧ w.cell? ⟨(ad.add (i * 3)).block, (ad.add (i * 3)).off + 2, none⟩ = some (.int .i64 s.k) := by
 obtain ⟨ad, c, e, _, hK, hc0⟩ := Kd.C_get h ⟨none, none, 0⟩ (i : Int) (by omega) (by omega)
 have hK : c = sll s := by
  have hK' : c = sll (l.getD (i : Int).toNat ⟨none, none, 0⟩) := hK
  rw [Int.toNat_natCast, List.getD_eq_getElem?_getD, hs] at hK'
  exact hK'
 subst hK
 have hc : ∀ j v, (sll s)[j]? = some v → w.cell? (ad.add (i * 3 + j)) = some v := fun j v hv => hc0 j v hv
 exact ⟨ad, e, hc 0 _ rfl, by rw [← add_field _ _ 1 (by omega)]; exact hc 1 _ rfl, by rw [← add_field _ _ 2 (by omega)]; exact hc 2 _ rfl⟩
theorem slotsK_len (k : Int) : (slotsK k).length ≤ 4 := by
 unfold slotsK
 repeat' split
 all_goals decide
theorem slots_F (g : Nat) (k : Int) (w : World) (hk0 : 0 ≤ k) (hk6 : k ≤ 6) (hg : g < w.heap.size) (hk : w.cell? ⟨g, 0, none⟩ = some (.int .i64 k)) :
  Calls Tryz.prog 109 #[.pointer (some ⟨g, 0, none⟩)] w fun e w' => ∃ A c, e = .returned (.tuple #[.slice A (slotsK k).length c, .bool (tagK k)]) ∧ (slotsK k).length ≤ c ∧ Kd.F kL w' (fun j => w.heap.size ≤ j) A (slotsK k).length ((slotsK k).map (slotAt g)) ∧ Below w.heap.size w w' := by
 refine (slots_any g k w hk0 hk6 hg hk).mono ?_
 rintro e w' ⟨b, c, rfl, hb, hc, hC, hB⟩
 have h := F_cells hC (by rw [List.length_map]; have := slotsK_len k; omega)
 rw [List.length_map] at h
 exact ⟨_, _, rfl, hc, Kd.F_mono h (fun j hj => by rw [hj]; exact hb), hB⟩
def numF (f : Frm) (i : Nat) : Int := if i = 1 then f.user else if i = 2 then f.sess else if i = 3 then f.cn else if i = 4 then f.epoch else if i = 5 then f.count else if i = 6 then f.cmd else f.arg
def setF (o : Frm) (i : Nat) (v : Int) : Frm := if i = 1 then { o with user := v } else if i = 2 then { o with sess := v } else if i = 3 then { o with cn := v } else if i = 4 then { o with epoch := v } else if i = 5 then { o with count := v } else if i = 6 then { o with cmd := v } else { o with arg := v }
def kindI : Bool → IntKind
 | true => .i64
 | false => .u64
def okS (s : Bool × Nat × Int) : Prop := (s.1 = true ∧ (s.2.1 = 1 ∨ s.2.1 = 4 ∨ s.2.1 = 6 ∨ s.2.1 = 7)) ∨ (s.1 = false ∧ (s.2.1 = 2 ∨ s.2.1 = 3 ∨ s.2.1 = 5))
theorem okS_all (k : Int) : ∀ s ∈ slotsK k, okS s := by
 unfold slotsK okS
 repeat' split
 all_goals simp
theorem num_cell {w : World} {g : Nat} {t : TypeId} {f : Frm} (h : w.heap[g]? = some (.cells (fca f) t (0, 0))) {s : Bool × Nat × Int} (hs : okS s) : w.cell? ⟨g, s.2.1, none⟩ = some (.int (kindI s.1) (numF f s.2.1)) := by
 obtain ⟨b, i, n⟩ := s
 obtain ⟨c0, c1, c2, c3, c4, c5, c6, c7⟩ := cellsF h
 rcases hs with ⟨h1, h2⟩ | ⟨h1, h2⟩
 ·dsimp only at h1 h2
  subst h1
  rcases h2 with rfl | rfl | rfl | rfl <;> assumption
 ·dsimp only at h1 h2
  subst h1
  rcases h2 with rfl | rfl | rfl <;> assumption
theorem set_cell (o : Frm) {s : Bool × Nat × Int} (hs : okS s) (v : Int) : (fca o).setIfInBounds s.2.1 (.int (kindI s.1) v) = fca (setF o s.2.1 v) := by
 obtain ⟨b, i, n⟩ := s
 rcases hs with ⟨h1, h2⟩ | ⟨h1, h2⟩
 ·dsimp only at h1 h2
  subst h1
  rcases h2 with rfl | rfl | rfl | rfl <;> exact Array.toList_inj.1 (by rw [Array.toList_setIfInBounds]; rfl)
 ·dsimp only at h1 h2
  subst h1
  rcases h2 with rfl | rfl | rfl <;> exact Array.toList_inj.1 (by rw [Array.toList_setIfInBounds]; rfl)
def cpF (f o : Frm) (l : List (Bool × Nat × Int)) : Frm := l.foldl (fun o s => setF o s.2.1 (numF f s.2.1)) o
theorem cpF_snoc (f o : Frm) (l : List (Bool × Nat × Int)) (s : Bool × Nat × Int) : cpF f o (l ++ [s]) = setF (cpF f o l) s.2.1 (numF f s.2.1) := by
 unfold cpF
 rw [List.foldl_append]
 rfl
theorem cpF_bare (f : Frm) (h0 : 0 ≤ f.kind) (h6 : f.kind ≤ 6) : bareF f = if tagK f.kind = true then { (cpF f (kfrm f.kind) (slotsK f.kind)) with tag := f.tag } else cpF f (kfrm f.kind) (slotsK f.kind) := by
 have h : f.kind = 0 ∨ f.kind = 1 ∨ f.kind = 2 ∨ f.kind = 3 ∨ f.kind = 4 ∨ f.kind = 5 ∨ f.kind = 6 := by omega
 rcases h with h | h | h | h | h | h | h <;> (unfold bareF; rw [h]; rfl)
theorem wr_i {i n : Nat} (h : i < n) (hn : n ≤ 4) : wrap64 ((i : Int) + 1) = (i : Int) + 1 := by
 unfold wrap64
 omega
theorem bare_rel {f : Frm} {w wr W : World} {g1 g2 g3 i : Nat} {L : List (Bool × Nat × Int)} {s : Bool × Nat × Int} {A1 A2 : Option Addr} (hlt : i < L.length) (hs : L[i]? = some s) (ho : okS s) (HB : Below w.heap.size w wr) (Y1 : wr.heap[g1]? = some (.cells (fca f) 31 (0, 0))) (Y2 : wr.heap[g2]? = some (.cells (fca zfrm) 31 (0, 0))) (Y3 : wr.heap[g3]? = some (.cells (fca (cpF f (kfrm f.kind) (L.take i))) 31 (0, 0)))
  (E1 : Kd.F kL wr (fun j => j ≠ g3) A1 L.length (L.map (slotAt g1))) (E2 : Kd.F kL wr (fun j => j ≠ g3) A2 L.length (L.map (slotAt g3))) (L3 : w.heap.size ≤ g3) (h13 : g1 < g3) (h23 : g2 < g3) (hb : Below wr.heap.size wr W) :
  ∃ j : Nat, j ≤ L.length ∧ Value.int .i64 ((i : Int) + 1) = .int .i64 j ∧ Aside0 (Below w.heap.size w (W.drew.setCell ⟨g3, s.2.1, none⟩ (.int (kindI s.1) (numF f s.2.1)))) ∧ Aside0 ((W.drew.setCell ⟨g3, s.2.1, none⟩ (.int (kindI s.1) (numF f s.2.1))).heap[g1]? = some (.cells (fca f) 31 (0, 0))) ∧ Aside0 ((W.drew.setCell ⟨g3, s.2.1, none⟩ (.int (kindI s.1) (numF f s.2.1))).heap[g2]? = some (.cells (fca zfrm) 31 (0, 0))) ∧ Aside0 ((W.drew.setCell ⟨g3, s.2.1, none⟩ (.int (kindI s.1) (numF f s.2.1))).heap[g3]? = some (.cells (fca (cpF f (kfrm f.kind) (L.take j))) 31 (0, 0))) ∧ Aside0 (Kd.F kL (W.drew.setCell ⟨g3, s.2.1, none⟩ (.int (kindI s.1) (numF f s.2.1))) (fun j => j ≠ g3) A1 L.length (L.map (slotAt g1))) ∧ Aside0 (Kd.F kL (W.drew.setCell ⟨g3, s.2.1, none⟩ (.int (kindI s.1) (numF f s.2.1))) (fun j => j ≠ g3) A2 L.length (L.map (slotAt g3))) := by
 refine ⟨i + 1, by omega, rfl, ⟨below_set (below_drew (below_step HB hb)) L3⟩, ⟨blk_far (blk_drew (blk_below Y1 hb)) (by show g1 ≠ g3; omega) _⟩, ⟨blk_far (blk_drew (blk_below Y2 hb)) (by show g2 ≠ g3; omega) _⟩, ⟨?_⟩, ⟨Kd.F_far (Kd.F_drew (Kd.F_below E1 hb)) (fun _ h => h) _⟩, ⟨Kd.F_far (Kd.F_drew (Kd.F_below E2 hb)) (fun _ h => h) _⟩⟩
 rw [List.take_add_one, hs, Option.toList_some, cpF_snoc, ← set_cell _ ho]
 exact blk_set (blk_drew (blk_below Y3 hb)) _ _
set_option maxHeartbeats 2000000 in
theorem bare_any (f : Frm) (w : World) (h0 : 0 ≤ f.kind) (h6 : f.kind ≤ 6) :
  Calls Tryz.prog 108 #[.agg (fca f)] w fun e w' => e = .returned (.agg (fca (bareF f))) ∧ Below w.heap.size w w' := by
 have HB := aq_ (Below.refl w.heap.size w)
 obtain ⟨q0, q1, q2, q3, q4, q5, q6, q7⟩ := fca_at f
 go_enter Tryz.func108, Tryz.ntmps108
 go_upto_region 1 with (first
  | (with_reducible refine box_Fr (.tmp 0) (f := f) rfl rfl rfl ?_; intro g1 hg w1 hbox hb; have HB1 := aq_ (below_step HB.out hb); have X1 := aq_ hbox; have L1 := aq_ (Nat.le_of_eq hg.symm); clear hg hbox hb HB)
  | (with_reducible refine alloc_Fr rfl rfl ?_; intro g2 hg w2 hbox hb; have HB2 := aq_ (below_step HB1.out hb); have X2 := aq_ hbox; have X1b := aq_ (blk_below X1.out hb); have L2 := aq_ (Nat.le_trans HB1.out.size (Nat.le_of_eq hg.symm)); have N12 := aq_ (show g1 < g2 by rw [hg]; exact blk_lt X1.out); have hq0 := (cellsF X1b.out).1; clear hg hbox hb HB1 X1))
 go_upto_region 2 with (first
  | (with_reducible refine build_Fr (.tmp 11) rfl rfl (k := f.kind) rfl ?_)
  | (with_reducible refine alloc_Fr rfl rfl ?_; intro g3 hg w3 hbox hb; have HB3 := aq_ (below_step HB2.out hb); have X3 := aq_ hbox; have X2b := aq_ (blk_below X2.out hb); have X1c := aq_ (blk_below X1b.out hb); have L3 := aq_ (Nat.le_trans HB2.out.size (Nat.le_of_eq hg.symm)); have N23 := aq_ (show g2 < g3 by rw [hg]; exact blk_lt X2.out); clear hg hbox hb HB2 X1b X2 hq0)
  | (with_reducible refine store_Fr2 (.tmp 3) (.tmp 12) rfl rfl rfl (s := kfrm f.kind) (old := zfrm) rfl rfl X3.out ?_; intro w4 hbox hs hb; have HB4 := aq_ (HB3.out.trans (hb _ L3.out)); have Y3 := aq_ hbox; have Y2 := aq_ (blk_below0 X2b.out (hb g3 (Nat.le_refl _)) N23.out); have Y1 := aq_ (blk_below0 X1c.out (hb g3 (Nat.le_refl _)) (Nat.lt_trans N12.out N23.out)); clear hbox hs hb HB3 X1c X2b X3))
 go_upto_region 3 with (go_at_call 109; (with_reducible refine (slots_F g1 f.kind _ h0 h6 (blk_lt Y1.out) (cellsF Y1.out).1).mono ?_); rintro e w5 ⟨A1, c1, rfl, hc1, hC1, hb⟩; have HB5 := aq_ (below_step HB4.out hb); have Z3 := aq_ (blk_below Y3.out hb); have Z2 := aq_ (blk_below Y2.out hb); have Z1 := aq_ (blk_below Y1.out hb); have C1 := aq_ (Kd.F_mono hC1 (ok' := fun j => j ≠ g3) (fun j hj => by have := blk_lt Y3.out; omega)); have K1 := aq_ hc1; clear hc1 hC1 hb HB4 Y1 Y2 Y3)
 go_upto_region 4 with (go_at_call 109; have hz := kind_of Z3.out; (with_reducible refine (slots_F g3 f.kind _ h0 h6 (blk_lt Z3.out) hz).mono ?_); clear hz; rintro e w6 ⟨A2, c2, rfl, hc1, hC1, hb⟩; have HB6 := aq_ (below_step HB5.out hb); have Y3 := aq_ (blk_below Z3.out hb); have Y2 := aq_ (blk_below Z2.out hb); have Y1 := aq_ (blk_below Z1.out hb); have E1 := aq_ (Kd.F_below C1.out hb); have E2 := aq_ (Kd.F_mono hC1 (ok' := fun j => j ≠ g3) (fun j hj => by have := blk_lt Z3.out; omega)); have K2 := aq_ hc1; clear hc1 hC1 hb HB5 Z1 Z2 Z3 C1)
 obtain ⟨L, hL⟩ : ∃ L, L = slotsK f.kind := ⟨_, rfl⟩
 rw [← hL] at E1 E2 K1 K2 ⊢
 have HL := aq_ hL
 have OK := aq_ (show ∀ s ∈ L, okS s by rw [hL]; exact okS_all _)
 have LN := aq_ (show L.length ≤ 4 by rw [hL]; exact slotsK_len _)
 clear hL
 go_wp2
 go_loopw [23] (fun v23 wr => ∃ i : Nat, i ≤ L.length ∧ v23 = .int .i64 i ∧ Aside0 (Below w.heap.size w wr) ∧ Aside0 (wr.heap[g1]? = some (.cells (fca f) 31 (0, 0))) ∧ Aside0 (wr.heap[g2]? = some (.cells (fca zfrm) 31 (0, 0))) ∧ Aside0 (wr.heap[g3]? = some (.cells (fca (cpF f (kfrm f.kind) (L.take i))) 31 (0, 0))) ∧ Aside0 (Kd.F kL wr (fun j => j ≠ g3) A1 L.length (L.map (slotAt g1))) ∧ Aside0 (Kd.F kL wr (fun j => j ≠ g3) A2 L.length (L.map (slotAt g3)))) (fun v23 _ => L.length - (intOf v23).toNat)
 case atStart => exact ⟨0, by omega, rfl, HB6, Y1, Y2, Y3, E1, E2⟩
 case round =>
  clear HB6 Y1 Y2 Y3 E1 E2
  obtain ⟨i, hi, rfl, HB, Y1, Y2, Y3, E1, E2⟩ := hrel
  by_cases hlt : i < L.length
  ·obtain ⟨⟨b, off, k⟩, hs⟩ : ∃ s, L[i]? = some s := ⟨_, List.getElem?_eq_getElem hlt⟩
   have ho := OK.out _ (List.mem_of_getElem? hs)
   obtain ⟨ad1, rfl, a0, a1, a2⟩ := at_L (Kd.F_now E1.out) i hlt (slotAt g1 (b, off, k)) (by rw [List.getElem?_map, hs]; rfl)
   obtain ⟨ad2, rfl, p0, p1, p2⟩ := at_L (Kd.F_now E2.out) i hlt (slotAt g3 (b, off, k)) (by rw [List.getElem?_map, hs]; rfl)
   have HS := aq_ hs
   have HO := aq_ ho
   clear hs ho
   cases b
   ·
    replace a0 : wr.cell? (ad1.add (i * 3)) = some (.pointer (none)) := a0
    replace a1 : wr.cell? ⟨(ad1.add (i * 3)).block, (ad1.add (i * 3)).off + 1, none⟩ = some (.pointer (some ⟨g1, off, none⟩)) := a1
    replace p0 : wr.cell? (ad2.add (i * 3)) = some (.pointer (none)) := p0
    replace p1 : wr.cell? ⟨(ad2.add (i * 3)).block, (ad2.add (i * 3)).off + 1, none⟩ = some (.pointer (some ⟨g3, off, none⟩)) := p1
    replace p2 : wr.cell? ⟨(ad2.add (i * 3)).block, (ad2.add (i * 3)).off + 2, none⟩ = some (.int .i64 k) := p2
    clear a2
    go_upto_region 9 with (fail)
    obtain ⟨W, hW⟩ : ∃ W, W = wr.alloc (.cells #[.pointer (none), .pointer (some ⟨g3, off, none⟩), .int .i64 k] 145) := ⟨_, rfl⟩
    rw [← hW]
    have hbb : Below wr.heap.size wr W := by rw [hW]; exact below_alloc (Below.refl _ _) _
    have x0 : W.drew.cell? ⟨wr.heap.size, 1, none⟩ = some (.pointer (some ⟨g3, off, none⟩)) := by rw [hW]; exact blk_cell (blk_drew (blk_new wr _)) 1
    clear hW
    have x1 : W.drew.cell? (⟨(ad1.add (i * 3)).block, (ad1.add (i * 3)).off + 1, none⟩) = some (.pointer (some ⟨g1, off, none⟩)) := (hbb.cell (World.block_lt_of_cell? _ _ a1)).trans a1
    have x2 : W.drew.cell? ⟨g1, off, none⟩ = some (.int .u64 (numF f off)) := num_cell (blk_below Y1.out hbb) (s := (false, off, k)) HO.out
    have Z3 := blk_below Y3.out hbb
    have x3 : W.drew.cell? ⟨g3, off, none⟩ = some (.int .u64 (numF (cpF f (kfrm f.kind) (L.take i)) off)) := num_cell Z3 (s := (false, off, k)) HO.out
    have x4 : W.drew.frozen? ⟨g3, off, none⟩ = false := blk_frozen Z3 off
    refine start_ (n := 11) (S := fun w' => w'.cell? ⟨wr.heap.size, 1, none⟩ = some (.pointer (some ⟨g3, off, none⟩)) ∧ w'.cell? (⟨(ad1.add (i * 3)).block, (ad1.add (i * 3)).off + 1, none⟩) = some (.pointer (some ⟨g1, off, none⟩)) ∧ w'.cell? ⟨g1, off, none⟩ = some (.int .u64 (numF f off))) (ds := [10]) #[false, false, false, false, false, false, false, false, false, false, false] (by kernel_rfl) rfl rfl ⟨x0, x1, x2⟩ (fun hHeld => ?_)
    refine pz_ 0 (some 41) (bt_ 11 1) ?_
    refine pz_ 2 (some 43) (bt_ 11 5) ?_
    refine pz_ 3 (some 44) (bt_ 11 13) ?_
    refine pz_ 4 (some 45) (bt_ 11 29) ?_
    refine pz_ 5 (some 46) (bt_ 11 61) ?_
    refine tz_ 1 (some 42) (bt_ 11 63) hHeld ?_
    refine tz_ 6 (some 47) (bt_ 11 127) hHeld ?_
    refine pz_ 7 (some 48) (bt_ 11 255) ?_
    refine tz_ 8 (some 49) (bt_ 11 511) hHeld ?_
    refine pz_ 9 (some 50) (bt_ 11 1023) ?_
    refine last_ (i := 10) (N := none) (bt_ 11 2047) rfl rfl (by kernel_rfl) (by decide) (fun K hK => ?_)
    refine skip_ (w1 := ?_) (by rfl) rfl ?_ ?_
    rotate_left
    ·go_simp
     rfl
    refine hK.out _ _ ?_
    clear hK K
    refine done_ (by kernel_rfl) ?_
    go_wp2
    go_roundw
    case rel =>
     rw [wr_i hlt LN.out]
     exact bare_rel hlt HS.out HO.out HB.out Y1.out Y2.out Y3.out E1.out E2.out L3.out (Nat.lt_trans N12.out N23.out) N23.out hbb
    case measure => rw [wr_i hlt LN.out]; simp [intOf]; omega
   ·
    replace a0 : wr.cell? (ad1.add (i * 3)) = some (.pointer (some ⟨g1, off, none⟩)) := a0
    replace a1 : wr.cell? ⟨(ad1.add (i * 3)).block, (ad1.add (i * 3)).off + 1, none⟩ = some (.pointer (none)) := a1
    replace p0 : wr.cell? (ad2.add (i * 3)) = some (.pointer (some ⟨g3, off, none⟩)) := p0
    replace p1 : wr.cell? ⟨(ad2.add (i * 3)).block, (ad2.add (i * 3)).off + 1, none⟩ = some (.pointer (none)) := p1
    replace p2 : wr.cell? ⟨(ad2.add (i * 3)).block, (ad2.add (i * 3)).off + 2, none⟩ = some (.int .i64 k) := p2
    clear a2
    go_upto_region 8 with (fail)
    obtain ⟨W, hW⟩ : ∃ W, W = wr.alloc (.cells #[.pointer (some ⟨g3, off, none⟩), .pointer (none), .int .i64 k] 145) := ⟨_, rfl⟩
    rw [← hW]
    have hbb : Below wr.heap.size wr W := by rw [hW]; exact below_alloc (Below.refl _ _) _
    have x0 : W.drew.cell? ⟨wr.heap.size, 0, none⟩ = some (.pointer (some ⟨g3, off, none⟩)) := by rw [hW]; exact blk_cell (blk_drew (blk_new wr _)) 0
    clear hW
    have x1 : W.drew.cell? (ad1.add (i * 3)) = some (.pointer (some ⟨g1, off, none⟩)) := (hbb.cell (World.block_lt_of_cell? _ _ a0)).trans a0
    have x2 : W.drew.cell? ⟨g1, off, none⟩ = some (.int .i64 (numF f off)) := num_cell (blk_below Y1.out hbb) (s := (true, off, k)) HO.out
    have Z3 := blk_below Y3.out hbb
    have x3 : W.drew.cell? ⟨g3, off, none⟩ = some (.int .i64 (numF (cpF f (kfrm f.kind) (L.take i)) off)) := num_cell Z3 (s := (true, off, k)) HO.out
    have x4 : W.drew.frozen? ⟨g3, off, none⟩ = false := blk_frozen Z3 off
    refine start_ (n := 11) (S := fun w' => w'.cell? ⟨wr.heap.size, 0, none⟩ = some (.pointer (some ⟨g3, off, none⟩)) ∧ w'.cell? (ad1.add (i * 3)) = some (.pointer (some ⟨g1, off, none⟩)) ∧ w'.cell? ⟨g1, off, none⟩ = some (.int .i64 (numF f off))) (ds := [10]) #[false, false, false, false, false, false, false, false, false, false, false] (by kernel_rfl) rfl rfl ⟨x0, x1, x2⟩ (fun hHeld => ?_)
    refine pz_ 0 (some 31) (bt_ 11 1) ?_
    refine pz_ 2 (some 33) (bt_ 11 5) ?_
    refine pz_ 3 (some 34) (bt_ 11 13) ?_
    refine pz_ 4 (some 35) (bt_ 11 29) ?_
    refine pz_ 5 (some 36) (bt_ 11 61) ?_
    refine tz_ 1 (some 32) (bt_ 11 63) hHeld ?_
    refine tz_ 6 (some 37) (bt_ 11 127) hHeld ?_
    refine pz_ 7 (some 38) (bt_ 11 255) ?_
    refine tz_ 8 (some 39) (bt_ 11 511) hHeld ?_
    refine pz_ 9 (some 40) (bt_ 11 1023) ?_
    refine last_ (i := 10) (N := none) (bt_ 11 2047) rfl rfl (by kernel_rfl) (by decide) (fun K hK => ?_)
    refine skip_ (w1 := ?_) (by rfl) rfl ?_ ?_
    rotate_left
    ·go_simp
     rfl
    refine hK.out _ _ ?_
    clear hK K
    refine done_ (by kernel_rfl) ?_
    go_wp2
    go_roundw
    case rel =>
     rw [wr_i hlt LN.out]
     exact bare_rel hlt HS.out HO.out HB.out Y1.out Y2.out Y3.out E1.out E2.out L3.out (Nat.lt_trans N12.out N23.out) N23.out hbb
    case measure => rw [wr_i hlt LN.out]; simp [intOf]; omega
  ·obtain rfl : i = L.length := by omega
   have hF : cpF f (kfrm f.kind) (L.take L.length) = cpF f (kfrm f.kind) (slotsK f.kind) := by rw [List.take_length, HL.out]
   rw [hF] at Y3
   clear hF E1 E2 LN OK HL
   cases ht : tagK f.kind
   ·have HT := aq_ ht
    clear ht
    go_upto_region 13 with (fail)
    go_wp2_with (first
     | (with_reducible refine load_F (.tmp 3) rfl rfl (p := ⟨g3, 0, none⟩) rfl (cells_boxF Y3.out) ?_)
     | (with_reducible refine store_Fr2 (.tmp 2) (.tmp 56) rfl rfl rfl rfl rfl Y2.out ?_; intro w9 hbox hs hb; have HB9 := aq_ (HB.out.trans (hb _ L2.out)); have R := aq_ hbox; clear hbox hs hb))
    refine bodyPost_ret (v := .agg (fca (cpF f (kfrm f.kind) (slotsK f.kind)))) (ret_Fr rfl (g := g2) rfl R.out) rfl ⟨?_, HB9.out⟩
    rw [cpF_bare f h0 h6, if_neg (by rw [HT.out]; decide)]
   ·have HT := aq_ ht
    clear ht
    go_upto_region 12 with (fail)
    go_upto_region 13 with (first
     | (with_reducible refine load_Tg (.tmp 53) rfl rfl rfl Y1.out ?_)
     | (with_reducible refine store_Tg (.tmp 55) (.tmp 54) rfl rfl rfl rfl rfl Y3.out ?_; intro w8 hbox hs hb; have HB8 := aq_ (HB.out.trans (hb _ L3.out)); have Z3 := aq_ hbox; have Z2 := aq_ (blk_below0 Y2.out (hb g3 (Nat.le_refl _)) N23.out); clear hbox hs hb))
    go_wp2_with (first
     | (with_reducible refine load_F (.tmp 3) rfl rfl (p := ⟨g3, 0, none⟩) rfl (cells_boxF Z3.out) ?_)
     | (with_reducible refine store_Fr2 (.tmp 2) (.tmp 56) rfl rfl rfl rfl rfl Z2.out ?_; intro w9 hbox hs hb; have HB9 := aq_ (HB8.out.trans (hb _ L2.out)); have R := aq_ hbox; clear hbox hs hb))
    refine bodyPost_ret (v := .agg (fca { (cpF f (kfrm f.kind) (slotsK f.kind)) with tag := f.tag })) (ret_Fr rfl (g := g2) rfl R.out) rfl ⟨?_, HB9.out⟩
    rw [cpF_bare f h0 h6, if_pos (by rw [HT.out])]
end Go.Proofs.YtdinphnljokigaaGreat.P
end
