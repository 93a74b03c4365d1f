/- What LawSymAgree rests on, part 7: several texts put together. -/
import Derived.Test.YtdinphnljokigaaGreatS4
import Derived.ChangeKeysEq
import Derived.Test.YtdinphnljokigaaGreatS3
set_option linter.unusedVariables false
set_option linter.unnecessarySimpa false
set_option linter.unusedSimpArgs false
set_option maxRecDepth 100000
section
namespace Go.Proofs.YtdinphnljokigaaGreat.P
open Go.RowKit Go.Lib Go.Proofs.YtdinphnljokigaaGreatW.PrintWords Go.Proofs.YtdinphnljokigaaGreatW.PrintLast Go.Proofs.YtdinphnljokigaaGreatW.PrintMore
def Key : Type := {l : List Int // l.length = 32}
instance : DecidableEq Key := fun a b => decidable_of_iff (a.1 = b.1) ⟨Subtype.ext, fun h => by rw [h]⟩
def zkey : Key := ⟨List.replicate 32 0, by simp⟩
structure Ses where
 user : Int
 epoch : Int
 draw : Int
 cn : Int
 key : Key
 isOpen : Bool
 count : Int
 last : Int
theorem Ses.eq_iff (a b : Ses) : a = b ↔ (a.user = b.user ∧ a.epoch = b.epoch ∧ a.draw = b.draw ∧ a.cn = b.cn ∧ a.key.1 = b.key.1 ∧ a.isOpen = b.isOpen ∧ a.count = b.count ∧ a.last = b.last) := by
 constructor
 ·rintro rfl
  exact ⟨rfl, rfl, rfl, rfl, rfl, rfl, rfl, rfl⟩
 ·obtain ⟨a1, a2, a3, a4, ⟨a5, _⟩, a6, a7, a8⟩ := a
  obtain ⟨b1, b2, b3, b4, ⟨b5, _⟩, b6, b7, b8⟩ := b
  rintro ⟨h1, h2, h3, h4, h5, h6, h7, h8⟩
  dsimp only at h1 h2 h3 h4 h5 h6 h7 h8
  subst h1 h2 h3 h4 h5 h6 h7 h8
  rfl
instance : DecidableEq Ses := fun a b => decidable_of_iff _ (Ses.eq_iff a b).symm
def zses : Ses := ⟨0, 0, 0, 0, zkey, false, 0, 0⟩
def scl (x : Ses) : List Value := .int .i64 x.user :: .int .i64 x.epoch :: .int .u64 x.draw :: .int .u64 x.cn :: (x.key.1.map (Value.int .u8) ++ [Value.bool x.isOpen, Value.int .u64 x.count, Value.int .i64 x.last])
theorem scl_len (x : Ses) : (scl x).length = 39 := by
 have := x.key.2
 simp only [scl, List.length_cons, List.length_append, List.length_map, List.length_nil, this]
theorem scl_one (x : Ses) : ∀ u ∈ scl x, u.oneCell' = true := by
 intro u hu
 simp only [scl, List.mem_cons, List.mem_append, List.mem_map, List.not_mem_nil, or_false] at hu
 rcases hu with rfl | rfl | rfl | rfl | ⟨a, _, rfl⟩ | rfl | rfl | rfl <;> rfl
theorem scl_at (x : Ses) : (scl x)[0]? = some (.int .i64 x.user) ∧ (scl x)[1]? = some (.int .i64 x.epoch) ∧ (scl x)[2]? = some (.int .u64 x.draw) ∧ (scl x)[3]? = some (.int .u64 x.cn) ∧
  (scl x)[36]? = some (.bool x.isOpen) ∧ (scl x)[37]? = some (.int .u64 x.count) ∧ (scl x)[38]? = some (.int .i64 x.last) := by
 have hk := x.key.2
 have hl : (x.key.1.map (Value.int .u8)).length = 32 := by rw [List.length_map, hk]
 refine ⟨rfl, rfl, rfl, rfl, ?_, ?_, ?_⟩
 ·show (x.key.1.map (Value.int .u8) ++ [Value.bool x.isOpen, Value.int .u64 x.count, Value.int .i64 x.last])[32]? = _
  rw [List.getElem?_append_right (by omega), hl]
  rfl
 ·show (x.key.1.map (Value.int .u8) ++ [Value.bool x.isOpen, Value.int .u64 x.count, Value.int .i64 x.last])[33]? = _
  rw [List.getElem?_append_right (by omega), hl]
  rfl
 ·show (x.key.1.map (Value.int .u8) ++ [Value.bool x.isOpen, Value.int .u64 x.count, Value.int .i64 x.last])[34]? = _
  rw [List.getElem?_append_right (by omega), hl]
  rfl
theorem scl_key (x : Ses) : ((scl x).drop 4).take 32 = x.key.1.map (Value.int .u8) := by
 have hl : (x.key.1.map (Value.int .u8)).length = 32 := by rw [List.length_map, x.key.2]
 show (x.key.1.map (Value.int .u8) ++ [Value.bool x.isOpen, Value.int .u64 x.count, Value.int .i64 x.last]).take 32 = _
 exact List.take_left' hl
def sca (x : Ses) : Array Value := (scl x).toArray
theorem sca_size (x : Ses) : (sca x).size = 39 := scl_len x
theorem sca_list (x : Ses) : (sca x).toList = scl x := rfl
def kS : Kd Ses where
 sz := 39
 E := []
 K := fun _ x cs => cs = scl x
 M := fun _ _ _ x cs => cs = scl x
 K_len := fun h => by rw [h]; exact scl_len _
 K_one := fun h u hu => by
  rw [h] at hu
  exact scl_one _ u hu
 K_below := fun _ h => h
 K_of_M := fun h => h
 M_mono := fun _ h => h
 M_bound := fun h => h
 M_move := fun _ h => h
 M_lower := fun _ h => h
def aggD : TypeDesc → Bool
 | .struct _ | .array _ _ => true
 | _ => false
theorem part_cell {w : World} {t : TypeId} {cs : Array Value} {off : Nat} {v : Value} {d : TypeDesc} (hu : Tryz.prog.underlying t = some d) (hd : aggD d = false) (h : cs[off]? = some v) : (part t cs off).run Tryz.prog w = .ok v w := by
 unfold part isAgg
 simp only [Sem.run_bind, run_underlying hu w]
 cases d <;> simp_all [aggD]
theorem part_key (w : World) (x : Ses) : (part 29 (sca x) 4).run Tryz.prog w = .ok (.agg (x.key.1.map (Value.int .u8)).toArray) w := by
 have hi : (Tryz.prog.info? 29).map (·.size) = some 32 := by kernel_rfl
 cases hq : Tryz.prog.info? 29 with
 | none => rw [hq] at hi; simp at hi
 | some i =>
  have hs : i.size = 32 := by simpa [hq] using hi
  have he : (sca x).extract 4 (4 + 32) = (x.key.1.map (Value.int .u8)).toArray := by
   apply Array.toList_inj.1
   rw [Array.toList_extract, sca_list]
   show ((scl x).drop 4).take (4 + 32 - 4) = _
   exact scl_key x
  unfold part isAgg
  simp only [Sem.run_bind, run_underlying Tryz.underlying29 w, Result.andThen_ok, sizeOf, typeInfo, Sem.run_pure, if_true]
  simp [hq, hs, he]
theorem eq_items (w : World) (d : Nat) (k l : List Int) : ∀ (is : List Nat), (∀ i ∈ is, i < k.length ∧ i < l.length) →
  (Op.eqItems (d + 1) 5 1 (k.map (Value.int .u8)).toArray (l.map (Value.int .u8)).toArray is).run Tryz.prog w = .ok (is.all fun i => k[i]? == l[i]?) w := by
 intro is
 induction is with
 | nil => intro _; simp [Op.eqItems]
 | cons i is ih =>
  intro h
  obtain ⟨h1, h2⟩ := h i (by simp)
  have p1 : (part 5 (k.map (Value.int .u8)).toArray (i * 1)).run Tryz.prog w = .ok (.int .u8 k[i]) w := part_cell Tryz.underlying5 rfl (by simp [h1])
  have p2 : (part 5 (l.map (Value.int .u8)).toArray (i * 1)).run Tryz.prog w = .ok (.int .u8 l[i]) w := part_cell Tryz.underlying5 rfl (by simp [h2])
  have p3 := run_equalIn_int (P := Tryz.prog) (w := w) d 5 .u8 .u8 k[i] l[i] Tryz.underlying5
  simp only [Op.eqItems, Sem.run_bind, p1, p2, p3, Result.andThen_ok]
  have hr := ih (fun j hj => h j (by simp [hj]))
  by_cases e : k[i] = l[i]
  ·simp only [e, beq_self_eq_true, Bool.not_true, Bool.false_eq_true, if_false, hr]
   simp [h1, h2, e]
  ·have e2 : (k[i] == l[i]) = false := by simpa using e
   simp [e2, h1, h2, e]
theorem eq_key (w : World) (d : Nat) (k l : Key) : (Op.equalIn (d + 2) 29 (.agg (k.1.map (Value.int .u8)).toArray) (.agg (l.1.map (Value.int .u8)).toArray)).run Tryz.prog w = .ok (decide (k.1 = l.1)) w := by
 have hi : (Tryz.prog.info? 5).map (·.size) = some 1 := by kernel_rfl
 cases hq : Tryz.prog.info? 5 with
 | none => rw [hq] at hi; simp at hi
 | some i =>
  have hs : Tryz.prog.cellsOf 5 = 1 := by kernel_rfl
  rw [run_equalIn_array (P := Tryz.prog) w (d + 1) _ _ Tryz.underlying29 hq, hs, eq_items w d k.1 l.1 _ (fun j hj => by rw [k.2, l.2]; have := List.mem_range.1 hj; omega)]
  congr 1
  rw [Bool.eq_iff_iff, List.all_eq_true, decide_eq_true_eq]
  constructor
  ·intro h
   apply List.ext_getElem?
   intro j
   by_cases hj : j < 32
   ·exact eq_of_beq (h j (List.mem_range.2 hj))
   ·rw [List.getElem?_eq_none (by rw [k.2]; omega), List.getElem?_eq_none (by rw [l.2]; omega)]
  ·intro h j hj
   rw [h]
   exact beq_self_eq_true _
theorem eq_ses (w : World) (d : Nat) (x y : Ses) : (Op.equalIn (d + 3) 33 (.agg (sca x)) (.agg (sca y))).run Tryz.prog w = .ok (decide (x = y)) w := by
 have c : ∀ (z : Ses) (t : TypeId) (off : Nat) (v : Value) (de : TypeDesc), Tryz.prog.underlying t = some de → aggD de = false → (scl z)[off]? = some v → (part t (sca z) off).run Tryz.prog w = .ok v w := by
  intro z t off v de hu hd h
  exact part_cell hu hd (by rw [sca, List.getElem?_toArray]; exact h)
 obtain ⟨x0, x1, x2, x3, x4, x5, x6⟩ := scl_at x
 obtain ⟨y0, y1, y2, y3, y4, y5, y6⟩ := scl_at y
 have key : (Op.equalIn (d + 3) 33 (.agg (sca x)) (.agg (sca y))).run Tryz.prog w = .ok ((x.user == y.user) && ((x.epoch == y.epoch) && ((x.draw == y.draw) && ((x.cn == y.cn) && ((decide (x.key.1 = y.key.1)) && ((x.isOpen == y.isOpen) && ((x.count == y.count) && (x.last == y.last)))))))) w := by
  refine eqA_of Tryz.underlying33 (by kernel_rfl) ?_
  refine eqf_cons (by rfl) (c x _ _ _ _ Tryz.underlying3 rfl x0) (c y _ _ _ _ Tryz.underlying3 rfl y0) (run_equalIn_int _ _ _ _ _ _ _ Tryz.underlying3) ?_
  refine eqf_cons (by rfl) (c x _ _ _ _ Tryz.underlying3 rfl x1) (c y _ _ _ _ Tryz.underlying3 rfl y1) (run_equalIn_int _ _ _ _ _ _ _ Tryz.underlying3) ?_
  refine eqf_cons (by rfl) (c x _ _ _ _ Tryz.underlying27 rfl x2) (c y _ _ _ _ Tryz.underlying27 rfl y2) (run_equalIn_int _ _ _ _ _ _ _ Tryz.underlying27) ?_
  refine eqf_cons (by rfl) (c x _ _ _ _ Tryz.underlying27 rfl x3) (c y _ _ _ _ Tryz.underlying27 rfl y3) (run_equalIn_int _ _ _ _ _ _ _ Tryz.underlying27) ?_
  refine eqf_cons (by rfl) (part_key w x) (part_key w y) (eq_key w d x.key y.key) ?_
  refine eqf_cons (by rfl) (c x _ _ _ _ Tryz.underlying4 rfl x4) (c y _ _ _ _ Tryz.underlying4 rfl y4) (run_equalIn_bool' _ _ _ _ _ Tryz.underlying4) ?_
  refine eqf_cons (by rfl) (c x _ _ _ _ Tryz.underlying27 rfl x5) (c y _ _ _ _ Tryz.underlying27 rfl y5) (run_equalIn_int _ _ _ _ _ _ _ Tryz.underlying27) ?_
  exact eqf_last (by rfl) (c x _ _ _ _ Tryz.underlying3 rfl x6) (c y _ _ _ _ Tryz.underlying3 rfl y6) (run_equalIn_int _ _ _ _ _ _ _ Tryz.underlying3)
 rw [key]
 congr 1
 rw [Bool.eq_iff_iff, decide_eq_true_eq, Ses.eq_iff]
 simp only [Bool.and_eq_true, beq_iff_eq, decide_eq_true_eq]
theorem neq_ses (w : World) (x y : Ses) : (binOp .neq 33 (.agg (sca x)) (.agg (sca y))).run Tryz.prog w = .ok (.bool (!decide (x = y))) w := by
 show (do pure (Value.bool (!(← Op.equal 33 (.agg (sca x)) (.agg (sca y))))) : Sem Value).run Tryz.prog w = _
 have h : (Op.equal 33 (.agg (sca x)) (.agg (sca y))).run Tryz.prog w = .ok (decide (x = y)) w := eq_ses w 9997 x y
 simp only [Sem.run_bind, h, Result.andThen_ok, Sem.run_pure]
theorem infoS : (Tryz.prog.info? 33).map (·.size) = some 39 := by kernel_rfl
theorem cellsS {w : World} {g : Nat} {t : TypeId} {x : Ses} (h : w.heap[g]? = some (.cells (sca x) t (0, 0))) :
  w.cell? ⟨g, 0, none⟩ = some (.int .i64 x.user) ∧ w.cell? ⟨g, 1, none⟩ = some (.int .i64 x.epoch) ∧ w.cell? ⟨g, 2, none⟩ = some (.int .u64 x.draw) ∧ w.cell? ⟨g, 3, none⟩ = some (.int .u64 x.cn) ∧
  w.cell? ⟨g, 36, none⟩ = some (.bool x.isOpen) ∧ w.cell? ⟨g, 37, none⟩ = some (.int .u64 x.count) ∧ w.cell? ⟨g, 38, none⟩ = some (.int .i64 x.last) := by
 have c : ∀ j v, (scl x)[j]? = some v → w.cell? ⟨g, j, none⟩ = some v := fun j v hv => by
  rw [blk_cell h j, sca, List.getElem?_toArray]
  exact hv
 obtain ⟨h0, h1, h2, h3, h4, h5, h6⟩ := scl_at x
 exact ⟨c _ _ h0, c _ _ h1, c _ _ h2, c _ _ h3, c _ _ h4, c _ _ h5, c _ _ h6⟩
theorem at_S {w : World} {A : Option Addr} {n : Nat} {l : List Ses} (h : kS.C w A n l) (i : Nat) (hi : i < n) (x : Ses) (hx : l[i]? = some x) :
  ∃ ad, A = some ad ∧ (∀ j v, (scl x)[j]? = some v → w.cell? ((ad.add (i * 39)).add j) = some v) ∧
  w.cell? (ad.add (i * 39)) = some (.int .i64 x.user) ∧ w.cell? ⟨(ad.add (i * 39)).block, (ad.add (i * 39)).off + 1, none⟩ = some (.int .i64 x.epoch) ∧ w.cell? ⟨(ad.add (i * 39)).block, (ad.add (i * 39)).off + 2, none⟩ = some (.int .u64 x.draw) ∧
  w.cell? ⟨(ad.add (i * 39)).block, (ad.add (i * 39)).off + 3, none⟩ = some (.int .u64 x.cn) ∧ w.cell? ⟨(ad.add (i * 39)).block, (ad.add (i * 39)).off + 36, none⟩ = some (.bool x.isOpen) ∧ w.cell? ⟨(ad.add (i * 39)).block, (ad.add (i * 39)).off + 37, none⟩ = some (.int .u64 x.count) ∧
  w.cell? ⟨(ad.add (i * 39)).block, (ad.add (i * 39)).off + 38, none⟩ = some (.int .i64 x.last) := by
 obtain ⟨ad, c, e, _, hK, hc0⟩ := Kd.C_get h zses (i : Int) (by omega) (by omega)
 have hK : c = scl x := by
  have hK' : c = scl (l.getD (i : Int).toNat zses) := hK
  rw [Int.toNat_natCast, List.getD_eq_getElem?_getD, hx] at hK'
  exact hK'
 subst hK
 have hc : ∀ j v, (scl x)[j]? = some v → w.cell? (ad.add (i * 39 + j)) = some v := fun j v hv => hc0 j v hv
 obtain ⟨h0, h1, h2, h3, h4, h5, h6⟩ := scl_at x
 refine ⟨ad, e, fun j v hv => ?_, ?_, ?_, ?_, ?_, ?_, ?_, ?_⟩
 ·rw [add_add]
  exact hc j v hv
 ·exact hc 0 _ h0
 all_goals (rw [← add_field _ _ _ (by omega)]; first | exact hc _ _ h1 | exact hc _ _ h2 | exact hc _ _ h3 | exact hc _ _ h4 | exact hc _ _ h5 | exact hc _ _ h6)
section
variable {ops : Array Oper} {rest : List Oper} {o : Oper} {a : Act} {w : World} {Q : Exit → Act → World → Prop} {K : Act → World → Prop}
theorem run_loadS {p : Addr} {x : Ses} (hc : ∀ j v, (scl x)[j]? = some v → w.cell? (p.add j) = some v) : (loadVar 33 p).run Tryz.prog w = .ok (.agg (sca x)) w := by
 have hl := run_loadCells_list (P := Tryz.prog) w p (scl x) hc
 rw [scl_len] at hl
 have hi := infoS
 cases hq : Tryz.prog.info? 33 with
 | none => rw [hq] at hi; simp at hi
 | some i =>
  have hs : i.size = 39 := by simpa [hq] using hi
  have hagg : (isAgg 33).run Tryz.prog w = .ok true w := by
   unfold isAgg
   rw [Sem.run_bind, run_underlying Tryz.underlying33 w]
   simp
  simp [loadVar, Sem.run_bind, hagg, sizeOf, typeInfo, hq, hs, hl, sca]
theorem exec_loadS (x : Operand) (ho : o.op = .load 33 x) {p : Addr} (hx : a.eval x = .pointer (some p)) {s : Ses} (hc : ∀ j v, (scl s)[j]? = some v → w.cell? (p.add j) = some v) :
  (execOp a.eval o).run Tryz.prog w = .ok (.value (.agg (sca s))) w := by
 unfold execOp
 simp only [ho, hx, Instr.loadAt, Instr.sureAddr, Sem.run_bind, Sem.run_pure, Result.andThen_ok, run_loadS hc]
theorem cells_box {g : Nat} {t : TypeId} {s : Ses} (h : w.heap[g]? = some (.cells (sca s) t (0, 0))) : ∀ j v, (scl s)[j]? = some v → w.cell? ((⟨g, 0, none⟩ : Addr).add j) = some v := fun j v hv => by
 have hadd : (⟨g, 0, none⟩ : Addr).add j = ⟨g, j, none⟩ := by unfold Addr.add; split <;> simp_all
 rw [hadd, blk_cell h j, sca, List.getElem?_toArray]
 exact hv
theorem load_S (x : Operand) (ho : o.op = .load 33 x) (hgd : o.guard = none) {p : Addr} (hx : a.eval x = .pointer (some p)) {s : Ses} (hc : ∀ j v, (scl s)[j]? = some v → w.cell? (p.add j) = some v)
  (h : wpList Tryz.prog ops Q rest (a.put o.dst (.agg (sca s))) w) : wpList Tryz.prog ops Q (o :: rest) a w := Kd.event_run hgd (exec_loadS x ho hx hc) h
theorem store_S (x y : Operand) (ho : o.op = .store 33 x y) (hgd : o.guard = none) (hN : o.dst = none) {s : Ses} {old : Array Value} (hx : a.eval x = .pointer (some ⟨w.heap.size, 0, none⟩)) (hy : a.eval y = .agg (sca s)) (hold : old.size = 39)
  (h : ∀ w1 : World, w1.heap[w.heap.size]? = some (.cells (sca s) 33 (0, 0)) → Below w.heap.size w w1 → wpList Tryz.prog ops Q rest a w1) : wpList Tryz.prog ops Q (o :: rest) a (w.alloc (.cells old 33)) := by
 refine wpList_store_row hgd 33 x y ho w.heap.size (sca s) hx hy 33 old (blk_new w _) (by rw [infoS, sca_size]) (by rw [hold, sca_size]) ?_ ?_
 ·rw [Array.all_eq_true_iff_forall_mem]
  intro u hu
  exact scl_one s u (by simpa [sca] using hu)
 ·rw [hN]
  refine h _ (setRow_heap _ _ _ _ _ _ (blk_new w _)) ?_
  have hb := below_alloc (Below.refl w.heap.size w) (.cells old 33)
  refine ⟨hb.os, hb.tape, hb.output, (by simpa only [size_setRow] using hb.size), fun k hk => ?_⟩
  rw [setRow_other _ _ _ _ (by omega)]
  exact hb.block k hk
end
theorem fill_all : ∀ (l : List Value) (pre suf : List Value) (n : Nat), n = pre.length → suf.length = l.length →
  (l.zipIdx n).foldl (fun (cs : Array Value) (p : Value × Nat) => cs.setIfInBounds p.2 p.1) (pre ++ suf).toArray = (pre ++ l).toArray := by
 intro l
 induction l with
 | nil => intro pre suf n h1 h2; have : suf = [] := List.length_eq_zero_iff.1 h2; subst this; rfl
 | cons v l ih =>
  intro pre suf n h1 h2
  cases suf with
  | nil => simp at h2
  | cons u suf =>
   rw [List.zipIdx_cons, List.foldl_cons]
   have e : ((pre ++ u :: suf).toArray.setIfInBounds n v) = ((pre ++ [v]) ++ suf).toArray := by
    subst h1
    apply Array.toList_inj.1
    simp [List.set_append]
   show List.foldl _ ((pre ++ u :: suf).toArray.setIfInBounds n v) _ = _
   rw [e, ih (pre ++ [v]) suf (n + 1) (by rw [List.length_append, List.length_singleton, h1]) (by simpa using h2)]
   simp
theorem fill_ses (x : Ses) (cells : Array Value) (hc : cells.size = 39) (size : Nat) (hs : size = 39) : Instr.fill (fun i => some (i * size, size)) cells [(0, .agg (sca x))] = some (sca x) := by
 subst hs
 have hz : (Value.agg (sca x)).cells.size = 39 := sca_size x
 unfold Instr.fill
 simp only [Nat.zero_mul, Nat.zero_add]
 rw [if_neg (by rw [hz, hc]; simp)]
 unfold Instr.fill
 congr 1
 have h := fill_all (scl x) [] cells.toList 0 rfl (by rw [scl_len]; exact hc)
 simp only [List.nil_append, Array.toArray_toList] at h
 show Array.foldl _ cells (sca x).zipIdx = sca x
 rw [← Array.foldl_toList, Array.toList_zipIdx, sca_list]
 exact h
theorem run_buildS (w : World) (x : Ses) : (Instr.buildSlice 39 1 #[(0, .agg (sca x))]).run Tryz.prog w = .ok (.slice (some ⟨w.heap.size, 0, none⟩) 1 1) (w.alloc (.cells (sca x) 33)) := by
 have hi : (Tryz.prog.info? 33).map (fun i => (i.size, i.zero.isSome)) = some (39, true) := by kernel_rfl
 cases hq : Tryz.prog.info? 33 with
 | none => rw [hq] at hi; simp at hi
 | some i =>
  have hs : i.size = 39 ∧ i.zero.isSome = true := by simpa [hq] using hi
  obtain ⟨z, hz⟩ := Option.isSome_iff_exists.1 hs.2
  have hf := fill_ses x ((Array.range (1 * i.size)).map (z.cells[· % z.cells.size]!)) (by simp [hs.1]) i.size hs.1
  rw [hs.1] at hf
  simp [Instr.buildSlice, Sem.run_bind, run_underlying Tryz.underlying39, sizeOf, typeInfo, zeroValue, hq, hs.1, hz]
  rw [Nat.one_mul] at hf
  rw [hf]
  simp [newRow]
def inB (n a b : Int) : Bool := decide (a ≤ n) && decide (n ≤ b)
def timesB (idle now : Int) : Bool := inB idle 1 1048576 && inB now 0 1073741824
def mayB (x : Ses) : Bool := inB x.user 1 255 && (inB x.epoch 0 1073741824 && (inB x.last 0 1073741824 && (x.isOpen || decide (x.count = 0))))
def lateB (x : Ses) (idle now : Int) : Bool := timesB idle now && (decide (0 ≤ x.last) && decide (x.last ≤ now - idle))
theorem ret_bool {a b : Bool} (h : a = b) : Ending.returned (.bool a) = .returned (.bool b) := by rw [h]
theorem in_any (n a b : Int) (w : World) : Calls Tryz.prog 94 #[.int .i64 n, .int .i64 a, .int .i64 b] w fun e w' => e = .returned (.bool (inB n a b)) ∧ w = w' := by
 by_cases h1 : a ≤ n
 ·by_cases h2 : n ≤ b
  ·go_enter Tryz.func94, Tryz.ntmps94
   go_wp2
   go_ret
   exact ⟨ret_bool (by simp [inB, h1, h2]), rfl⟩
  ·go_enter Tryz.func94, Tryz.ntmps94
   go_wp2
   go_ret
   exact ⟨ret_bool (by simp [inB, h1, h2]), rfl⟩
 ·have h3 : decide (a ≤ n) = false := by simpa using h1
  go_enter Tryz.func94, Tryz.ntmps94
  go_wp2
  go_ret
  exact ⟨ret_bool (by simp [inB]; omega), rfl⟩
theorem times_any (idle now : Int) (w : World) : Calls Tryz.prog 98 #[.int .i64 idle, .int .i64 now] w fun e w' => e = .returned (.bool (timesB idle now)) ∧ w = w' := by
 have e : timesB idle now = (inB idle 1 1048576 && inB now 0 1073741824) := rfl
 rw [e]
 generalize h1 : inB idle 1 1048576 = b1
 generalize h2 : inB now 0 1073741824 = b2
 have c1 := fun w => (in_any idle 1 1048576 w)
 have c2 := fun w => (in_any now 0 1073741824 w)
 rw [h1] at c1
 rw [h2] at c2
 have C1 := aq_ c1
 have C2 := aq_ c2
 clear c1 c2 h1 h2 e
 cases b1
 all_goals
  go_enter Tryz.func98, Tryz.ntmps98
  go_wp2_with (first
   | (go_at_call 94; (with_reducible refine (C1.out _).mono ?_); rintro e w_ ⟨rfl, rfl⟩)
   | (go_at_call 94; (with_reducible refine (C2.out _).mono ?_); rintro e w_ ⟨rfl, rfl⟩))
  go_ret
  exact ⟨rfl, rfl⟩
theorem sca_at (x : Ses) : (sca x)[0]? = some (.int .i64 x.user) ∧ (sca x)[1]? = some (.int .i64 x.epoch) ∧ (sca x)[2]? = some (.int .u64 x.draw) ∧ (sca x)[3]? = some (.int .u64 x.cn) ∧
  (sca x)[36]? = some (.bool x.isOpen) ∧ (sca x)[37]? = some (.int .u64 x.count) ∧ (sca x)[38]? = some (.int .i64 x.last) := by
 obtain ⟨h0, h1, h2, h3, h4, h5, h6⟩ := scl_at x
 unfold sca
 simp only [List.getElem?_toArray]
 exact ⟨h0, h1, h2, h3, h4, h5, h6⟩
theorem below_box (w : World) (x : Ses) : Below w.heap.size w (w.alloc (.cells (sca x) 33)) := below_alloc (Below.refl _ _) _
set_option maxHeartbeats 1000000 in
theorem may_any (x : Ses) (w : World) : Calls Tryz.prog 72 #[.agg (sca x)] w fun e w' => e = .returned (.bool (mayB x)) ∧ Below w.heap.size w w' := by
 have e : mayB x = (inB x.user 1 255 && (inB x.epoch 0 1073741824 && (inB x.last 0 1073741824 && (x.isOpen || decide (x.count = 0))))) := rfl
 obtain ⟨q0, q1, q2, q3, q4, q5, q6⟩ := sca_at x
 have HB := aq_ (below_box w x)
 rw [e]
 generalize h1 : inB x.user 1 255 = b1
 generalize h2 : inB x.epoch 0 1073741824 = b2
 generalize h3 : inB x.last 0 1073741824 = b3
 generalize h4 : x.isOpen = b4
 have c1 := fun w => (in_any x.user 1 255 w)
 have c2 := fun w => (in_any x.epoch 0 1073741824 w)
 have c3 := fun w => (in_any x.last 0 1073741824 w)
 rw [h1] at c1
 rw [h2] at c2
 rw [h3] at c3
 rw [h4] at q4
 have C1 := aq_ c1
 have C2 := aq_ c2
 have C3 := aq_ c3
 clear c1 c2 c3 h1 h2 h3 h4 e
 cases b1 <;> cases b2 <;> cases b3 <;> cases b4
 all_goals
  go_enter Tryz.func72, Tryz.ntmps72
  go_wp2_with (first
   | (go_at_call 94; (with_reducible refine (C1.out _).mono ?_); rintro e w_ ⟨rfl, rfl⟩)
   | (go_at_call 94; (with_reducible refine (C2.out _).mono ?_); rintro e w_ ⟨rfl, rfl⟩)
   | (go_at_call 94; (with_reducible refine (C3.out _).mono ?_); rintro e w_ ⟨rfl, rfl⟩))
  go_ret
  exact ⟨rfl, HB.out⟩
theorem late_any (x : Ses) (idle now : Int) (w : World) : Calls Tryz.prog 101 #[.agg (sca x), .int .i64 idle, .int .i64 now] w fun e w' => e = .returned (.bool (lateB x idle now)) ∧ Below w.heap.size w w' := by
 obtain ⟨q0, q1, q2, q3, q4, q5, q6⟩ := sca_at x
 have HB := aq_ (below_box w x)
 have e : ∀ r, r = lateB x idle now → Ending.returned (.bool r) = .returned (.bool (lateB x idle now)) := fun r h => by rw [h]
 have HE := aq_ e
 clear e
 cases h : timesB idle now
 ·have H := aq_ h
  have c := fun w => times_any idle now w
  rw [h] at c
  have C1 := aq_ c
  clear c h
  go_enter Tryz.func101, Tryz.ntmps101
  go_wp2_with (go_at_call 98; (with_reducible refine (C1.out _).mono ?_); rintro e w_ ⟨rfl, rfl⟩)
  go_ret
  exact ⟨HE.out _ (by unfold lateB; rw [H.out]; rfl), HB.out⟩
 ·have H := aq_ h
  have c := fun w => times_any idle now w
  rw [h] at c
  have C1 := aq_ c
  unfold timesB inB at h
  simp only [Bool.and_eq_true, decide_eq_true_eq] at h
  obtain ⟨⟨b1, b2⟩, b3, b4⟩ := h
  clear c
  go_enter Tryz.func101, Tryz.ntmps101
  go_wp2_with (go_at_call 98; (with_reducible refine (C1.out _).mono ?_); rintro e w_ ⟨rfl, rfl⟩)
  all_goals
   go_ret
   refine ⟨HE.out _ ?_, HB.out⟩
   rw [Bool.eq_iff_iff]
   unfold lateB
   simp [H.out]
   try omega
theorem use1_any (x : Ses) (w : World) : Calls Tryz.prog 104 #[.agg (sca x)] w fun e w' => e = .returned (.bool x.isOpen) ∧ Below w.heap.size w w' := by
 obtain ⟨q0, q1, q2, q3, q4, q5, q6⟩ := sca_at x
 have HB := aq_ (below_box w x)
 go_enter Tryz.func104, Tryz.ntmps104
 go_wp2
 go_ret
 exact ⟨rfl, HB.out⟩
theorem prove1_any (x : Ses) (w : World) : Calls Tryz.prog 103 #[.agg (sca x)] w fun e w' => e = .returned (.bool true) ∧ Below w.heap.size w w' := by
 have HB := aq_ (below_box w x)
 go_enter Tryz.func103, Tryz.ntmps103
 go_wp2
 go_ret
 exact ⟨rfl, HB.out⟩
theorem find1_any (x : Ses) (p : Addr) (d : Int) (w : World) (hp : w.cell? p = some (.int .u64 d)) (hlt : p.block < w.heap.size) : Calls Tryz.prog 96 #[.agg (sca x), .pointer (some p)] w fun e w' => e = .returned (.bool (x.draw == d)) ∧ Below w.heap.size w w' := by
 obtain ⟨q0, q1, q2, q3, q4, q5, q6⟩ := sca_at x
 have HB := aq_ (below_box w x)
 have hp1 : (w.alloc (.cells (sca x) 33)).cell? p = some (.int .u64 d) := by rw [← hp]; exact HB.out.cell hlt
 go_enter Tryz.func96, Tryz.ntmps96
 go_wp2
 go_ret
 exact ⟨rfl, HB.out⟩
theorem begin1_any (x : Ses) (p q : Addr) (idle now : Int) (w : World) (hp : w.cell? p = some (.int .i64 idle)) (hq : w.cell? q = some (.int .i64 now)) (hlt : p.block < w.heap.size) (hlt2 : q.block < w.heap.size) : Calls Tryz.prog 100 #[.agg (sca x), .pointer (some p), .pointer (some q)] w fun e w' => e = .returned (.bool (lateB x idle now)) ∧ Below w.heap.size w w' := by
 have HB := aq_ (below_box w x)
 have hp1 : (w.alloc (.cells (sca x) 33)).cell? p = some (.int .i64 idle) := by rw [← hp]; exact HB.out.cell hlt
 have hq1 : (w.alloc (.cells (sca x) 33)).cell? q = some (.int .i64 now) := by rw [← hq]; exact HB.out.cell hlt2
 have hc := cells_box (blk_new w (.cells (sca x) 33))
 have HC := aq_ hc
 clear hc
 go_enter Tryz.func100, Tryz.ntmps100
 go_wp2_with (first
  | (with_reducible refine load_S (.tmp 3) rfl rfl (p := ⟨w.heap.size, 0, none⟩) rfl HC.out ?_)
  | (go_at_call 101; (with_reducible refine (late_any x idle now _).mono ?_); rintro e w_ ⟨rfl, hb_⟩; have HB1 := aq_ (below_step HB.out hb_); clear hb_))
 go_ret
 exact ⟨rfl, HB1.out⟩
def idxS (p : Ses → Bool) : List Ses → Int
 | [] => -1
 | x :: l => if p x = true then 0 else if idxS p l = -1 then -1 else idxS p l + 1
theorem idxS_ge (p : Ses → Bool) : ∀ l, -1 ≤ idxS p l ∧ idxS p l < l.length
 | [] => by simp [idxS]
 | x :: l => by
  have := idxS_ge p l
  rw [idxS, List.length_cons]
  split
  ·omega
  ·split <;> omega
theorem idxS_skip (p : Ses → Bool) : ∀ (l k : List Ses), (∀ x ∈ l, p x = false) → idxS p (l ++ k) = if idxS p k = -1 then -1 else idxS p k + l.length
 | [], k, _ => by first | (simp; done) | (simp; intro h; exact h.symm)
 | x :: l, k, h => by
  have h1 := idxS_skip p l k fun y hy => h y (by simp [hy])
  have h2 := idxS_ge p k
  rw [List.cons_append, idxS, if_neg (by rw [h x (by simp)]; decide), h1, List.length_cons]
  by_cases e : idxS p k = -1
  ·rw [if_pos e, if_pos e, if_pos rfl]
  ·rw [if_neg e, if_neg e, if_neg (by omega)]; omega
theorem idxS_at (p : Ses → Bool) {l : List Ses} {i : Nat} {x : Ses} (hx : l[i]? = some x) (h0 : ∀ x ∈ l.take i, p x = false) (h1 : p x = true) : idxS p l = i := by
 obtain ⟨hi, hx⟩ := List.getElem?_eq_some_iff.1 hx
 have e : l = l.take i ++ (x :: l.drop (i + 1)) := by
  rw [← hx, ← List.drop_eq_getElem_cons hi, List.take_append_drop]
 rw [e, idxS_skip p _ _ h0, idxS, if_pos h1, List.length_take]
 simp
 omega
theorem idxS_none (p : Ses → Bool) {l : List Ses} (h : ∀ x ∈ l, p x = false) : idxS p l = -1 := by
 have := idxS_skip p l [] h
 simpa [idxS] using this
theorem takeS_all {p : Ses → Bool} {l : List Ses} {i : Nat} {x : Ses} (hx : l[i]? = some x) (h0 : ∀ x ∈ l.take i, p x = false) (h1 : p x = false) : ∀ x ∈ l.take (i + 1), p x = false := by
 intro y hy
 rw [List.take_add_one, hx] at hy
 rcases List.mem_append.1 hy with hy | hy
 ·exact h0 y hy
 ·rw [Option.toList_some, List.mem_singleton] at hy; rw [hy]; exact h1
def findS (l : List Ses) (d : Int) : Int := idxS (fun x => x.draw == d) l
set_option maxHeartbeats 1000000 in
set_option maxRecDepth 100000 in
theorem index_find (d : Int) (b : Nat) (l : List Ses) (A : Option Addr) (c : Nat) (W : World) (hr : Kd.C kS W A l.length l) (hp : W.heap[b]? = some (.cells #[.int .u64 d] 27 (0, 0))) :
  Calls Tryz.prog 74 #[.slice A l.length c, .func (.func 96) #[] #[.pointer (some ⟨b, 0, none⟩)]] W fun e w' => e = .returned (.int .i64 (idxS (fun x => x.draw == d) l)) ∧ Below W.heap.size W w' := by
 have hml : l.length ≤ 9223372036854775807 := hr.2.1
 have HC := aq_ hr
 have HB := aq_ (Below.refl W.heap.size W)
 have HP := aq_ hp
 clear hp
 clear hr
 obtain ⟨g, hg⟩ : ∃ g : Ses → Bool, g = fun x => x.draw == d := ⟨_, rfl⟩
 rw [← hg]
 have HG := aq_ hg
 clear hg
 go_enter Tryz.func74, Tryz.ntmps74
 go_wp2
 go_loopw [8] (fun v8 wr => ∃ i : Nat, i ≤ l.length ∧ v8 = .int .i64 i ∧ Aside0 (∀ x ∈ l.take i, g x = false) ∧ Aside0 (Below W.heap.size W wr)) (fun v8 _ => l.length - (intOf v8).toNat)
 case atStart => exact ⟨0, by omega, rfl, ⟨by simp⟩, HB⟩
 case round =>
  clear HB
  obtain ⟨i, hi, rfl, HS, HB⟩ := hrel
  by_cases hlt : i < l.length
  ·obtain ⟨y, hy⟩ : ∃ y, l[i]? = some y := ⟨_, List.getElem?_eq_getElem hlt⟩
   obtain ⟨ad, e0, hc, _⟩ := at_S (Kd.C_below HC.out HB.out) i hlt y hy
   subst e0
   have HA := aq_ (fun h => idxS_at g hy HS.out h)
   have HN := aq_ (fun h => takeS_all (p := g) hy HS.out h)
   have HX := aq_ hc
   clear hy hc
   cases hs : g y with
   | true =>
    have HT := aq_ hs
    have HI := aq_ (HA.out hs)
    clear hs
    go_wp2_with (first
     | (with_reducible refine load_S (.tmp 14) rfl rfl (p := ad.add (i * 39)) rfl HX.out ?_)
     | (go_at_call 96; (with_reducible refine (find1_any y ⟨b, 0, none⟩ d _ (blk_cell (blk_below HP.out HB.out) 0) (blk_lt (blk_below HP.out HB.out))).mono ?_); rw [← congrFun HG.out y, HT.out]; rintro e w1 ⟨rfl, hb⟩; have HB := aq_ (below_step HB.out hb); clear hb))
    go_ret
    exact ⟨by rw [HI.out]; rfl, HB.out⟩
   | false =>
    have HT := aq_ hs
    have HI := aq_ (HN.out hs)
    clear hs
    go_wp2_with (first
     | (with_reducible refine load_S (.tmp 14) rfl rfl (p := ad.add (i * 39)) rfl HX.out ?_)
     | (go_at_call 96; (with_reducible refine (find1_any y ⟨b, 0, none⟩ d _ (blk_cell (blk_below HP.out HB.out) 0) (blk_lt (blk_below HP.out HB.out))).mono ?_); rw [← congrFun HG.out y, HT.out]; rintro e w1 ⟨rfl, hb⟩; have HB := aq_ (below_step HB.out hb); clear hb))
    go_roundw
    case rel => exact ⟨i + 1, by omega, by go_num, HI, HB⟩
    case measure => simp [intOf]; omega
  ·obtain rfl : i = l.length := by omega
   go_wp2
   go_ret
   refine ⟨?_, HB.out⟩
   have := HS.out
   rw [List.take_length] at this
   rw [idxS_none _ this]
   rfl
set_option maxHeartbeats 1000000 in
set_option maxRecDepth 100000 in
theorem index_late (idle now : Int) (b b2 : Nat) (l : List Ses) (A : Option Addr) (c : Nat) (W : World) (hr : Kd.C kS W A l.length l) (hp : W.heap[b]? = some (.cells #[.int .i64 idle] 3 (0, 0))) (hq : W.heap[b2]? = some (.cells #[.int .i64 now] 3 (0, 0))) :
  Calls Tryz.prog 74 #[.slice A l.length c, .func (.func 100) #[] #[.pointer (some ⟨b, 0, none⟩), .pointer (some ⟨b2, 0, none⟩)]] W fun e w' => e = .returned (.int .i64 (idxS (fun x => lateB x idle now) l)) ∧ Below W.heap.size W w' := by
 have hml : l.length ≤ 9223372036854775807 := hr.2.1
 have HC := aq_ hr
 have HB := aq_ (Below.refl W.heap.size W)
 have HP := aq_ hp
 have HQ := aq_ hq
 clear hp hq
 clear hr
 obtain ⟨g, hg⟩ : ∃ g : Ses → Bool, g = fun x => lateB x idle now := ⟨_, rfl⟩
 rw [← hg]
 have HG := aq_ hg
 clear hg
 go_enter Tryz.func74, Tryz.ntmps74
 go_wp2
 go_loopw [8] (fun v8 wr => ∃ i : Nat, i ≤ l.length ∧ v8 = .int .i64 i ∧ Aside0 (∀ x ∈ l.take i, g x = false) ∧ Aside0 (Below W.heap.size W wr)) (fun v8 _ => l.length - (intOf v8).toNat)
 case atStart => exact ⟨0, by omega, rfl, ⟨by simp⟩, HB⟩
 case round =>
  clear HB
  obtain ⟨i, hi, rfl, HS, HB⟩ := hrel
  by_cases hlt : i < l.length
  ·obtain ⟨y, hy⟩ : ∃ y, l[i]? = some y := ⟨_, List.getElem?_eq_getElem hlt⟩
   obtain ⟨ad, e0, hc, _⟩ := at_S (Kd.C_below HC.out HB.out) i hlt y hy
   subst e0
   have HA := aq_ (fun h => idxS_at g hy HS.out h)
   have HN := aq_ (fun h => takeS_all (p := g) hy HS.out h)
   have HX := aq_ hc
   clear hy hc
   cases hs : g y with
   | true =>
    have HT := aq_ hs
    have HI := aq_ (HA.out hs)
    clear hs
    go_wp2_with (first
     | (with_reducible refine load_S (.tmp 14) rfl rfl (p := ad.add (i * 39)) rfl HX.out ?_)
     | (go_at_call 100; (with_reducible refine (begin1_any y ⟨b, 0, none⟩ ⟨b2, 0, none⟩ idle now _ (blk_cell (blk_below HP.out HB.out) 0) (blk_cell (blk_below HQ.out HB.out) 0) (blk_lt (blk_below HP.out HB.out)) (blk_lt (blk_below HQ.out HB.out))).mono ?_); rw [← congrFun HG.out y, HT.out]; rintro e w1 ⟨rfl, hb⟩; have HB := aq_ (below_step HB.out hb); clear hb))
    go_ret
    exact ⟨by rw [HI.out]; rfl, HB.out⟩
   | false =>
    have HT := aq_ hs
    have HI := aq_ (HN.out hs)
    clear hs
    go_wp2_with (first
     | (with_reducible refine load_S (.tmp 14) rfl rfl (p := ad.add (i * 39)) rfl HX.out ?_)
     | (go_at_call 100; (with_reducible refine (begin1_any y ⟨b, 0, none⟩ ⟨b2, 0, none⟩ idle now _ (blk_cell (blk_below HP.out HB.out) 0) (blk_cell (blk_below HQ.out HB.out) 0) (blk_lt (blk_below HP.out HB.out)) (blk_lt (blk_below HQ.out HB.out))).mono ?_); rw [← congrFun HG.out y, HT.out]; rintro e w1 ⟨rfl, hb⟩; have HB := aq_ (below_step HB.out hb); clear hb))
    go_roundw
    case rel => exact ⟨i + 1, by omega, by go_num, HI, HB⟩
    case measure => simp [intOf]; omega
  ·obtain rfl : i = l.length := by omega
   go_wp2
   go_ret
   refine ⟨?_, HB.out⟩
   have := HS.out
   rw [List.take_length] at this
   rw [idxS_none _ this]
   rfl
theorem find0_any (d : Int) (b : Nat) (l : List Ses) (A : Option Addr) (c : Nat) (W : World) (hr : Kd.C kS W A l.length l) (hp : W.heap[b]? = some (.cells #[.int .u64 d] 27 (0, 0))) :
  Calls Tryz.prog 95 #[.slice A l.length c, .func (.func 96) #[] #[.pointer (some ⟨b, 0, none⟩)]] W fun e w' => e = .returned (.int .i64 (findS l d)) ∧ Below W.heap.size W w' := by
 have HC := aq_ hr
 have HP := aq_ hp
 clear hr hp
 go_enter Tryz.func95, Tryz.ntmps95
 go_wp2_with (go_at_call 74; (with_reducible refine (index_find d b l A c _ HC.out HP.out).mono ?_); rintro e w1 ⟨rfl, hb⟩; have HB := aq_ hb; clear hb)
 go_ret
 exact ⟨rfl, HB.out⟩
theorem find_any (d : Int) (l : List Ses) (A : Option Addr) (c : Nat) (W : World) (hr : Kd.C kS W A l.length l) :
  Calls Tryz.prog 73 #[.slice A l.length c, .int .u64 d] W fun e w' => e = .returned (.int .i64 (findS l d)) ∧ Below W.heap.size W w' := by
 have HB := aq_ (below_alloc (Below.refl W.heap.size W) (.cells #[.int .u64 d] 27))
 have HC := aq_ (Kd.C_below hr HB.out)
 have HP := aq_ (blk_new W (.cells #[.int .u64 d] 27))
 clear hr
 go_enter Tryz.func73, Tryz.ntmps73
 go_wp2_with (go_at_call 95; (with_reducible refine (find0_any d W.heap.size l A c _ HC.out HP.out).mono ?_); rintro e w1 ⟨rfl, hb⟩; have HB := aq_ (below_step HB.out hb); clear hb)
 go_ret
 exact ⟨rfl, HB.out⟩
end Go.Proofs.YtdinphnljokigaaGreat.P
end

section
namespace Go.Proofs.YtdinphnljokigaaGreat.P
open Go.RowKit
theorem idxS_spec (p : Ses → Bool) : ∀ l : List Ses, (idxS p l = -1 ∧ ∀ x ∈ l, p x = false) ∨ ∃ (i : Nat) (x : Ses), idxS p l = i ∧ l[i]? = some x ∧ p x = true ∧ ∀ y ∈ l.take i, p y = false
 | [] => .inl ⟨rfl, by simp⟩
 | x :: l => by
  by_cases h : p x = true
  ·exact .inr ⟨0, x, by rw [idxS, if_pos h]; rfl, rfl, h, by simp⟩
  ·have hf : p x = false := by simpa using h
   rcases idxS_spec p l with ⟨h1, h2⟩ | ⟨i, y, h1, h2, h3, h4⟩
   ·refine .inl ⟨by rw [idxS, if_neg h, if_pos h1], fun y hy => ?_⟩
    rcases List.mem_cons.1 hy with rfl | hy
    ·exact hf
    ·exact h2 y hy
   ·refine .inr ⟨i + 1, y, by rw [idxS, if_neg h, if_neg (by omega), h1]; rfl, h2, h3, fun z hz => ?_⟩
    rw [List.take_succ_cons] at hz
    rcases List.mem_cons.1 hz with rfl | hz
    ·exact hf
    ·exact h4 z hz
theorem findS_spec (l : List Ses) (d : Int) : (findS l d = -1 ∧ ∀ x ∈ l, x.draw ≠ d) ∨ ∃ (i : Nat) (x : Ses), findS l d = i ∧ l[i]? = some x ∧ x.draw = d ∧ ∀ y ∈ l.take i, y.draw ≠ d := by
 rcases idxS_spec (fun x => x.draw == d) l with ⟨h1, h2⟩ | ⟨i, x, h1, h2, h3, h4⟩
 ·exact .inl ⟨h1, fun x hx => by simpa using h2 x hx⟩
 ·exact .inr ⟨i, x, h1, h2, by simpa using h3, fun y hy => by simpa using h4 y hy⟩
theorem findS_ge (l : List Ses) (d : Int) : -1 ≤ findS l d ∧ findS l d < l.length := idxS_ge _ l
theorem findS_none_iff (l : List Ses) (d : Int) : findS l d = -1 ↔ ∀ x ∈ l, x.draw ≠ d := by
 rcases findS_spec l d with ⟨h1, h2⟩ | ⟨i, x, h1, h2, h3, h4⟩
 ·exact ⟨fun _ => h2, fun _ => h1⟩
 ·refine ⟨fun h => by omega, fun h => ?_⟩
  exact absurd h3 (h x (List.mem_of_getElem? h2))
def mayP (l : List Ses) : Prop := (∀ x ∈ l, mayB x = true) ∧ (l.map Ses.draw).Nodup ∧ l.length ≤ 4
instance (l : List Ses) : Decidable (mayP l) := by unfold mayP; infer_instance
def mayS (l : List Ses) : Bool := decide (mayP l)
def okTo (l : List Ses) (n : Nat) : Prop := (∀ x ∈ l.take n, mayB x = true) ∧ ((l.take n).map Ses.draw).Nodup
theorem okTo_zero (l : List Ses) : okTo l 0 := by constructor <;> simp
theorem okTo_succ {l : List Ses} {n : Nat} {x : Ses} (hx : l[n]? = some x) : okTo l (n + 1) ↔ (okTo l n ∧ mayB x = true ∧ findS (l.take n) x.draw = -1) := by
 unfold okTo
 rw [List.take_add_one, hx, Option.toList_some, findS_none_iff]
 constructor
 ·rintro ⟨h1, h2⟩
  rw [List.map_append, List.nodup_append] at h2
  refine ⟨⟨fun y hy => h1 y (by simp [hy]), h2.1⟩, h1 x (by simp), fun y hy e => ?_⟩
  exact h2.2.2 y.draw (List.mem_map_of_mem hy) x.draw (by simp) e
 ·rintro ⟨⟨h1, h2⟩, h3, h4⟩
  refine ⟨fun y hy => ?_, ?_⟩
  ·rcases List.mem_append.1 hy with hy | hy
   ·exact h1 y hy
   ·rw [List.mem_singleton.1 hy]; exact h3
  ·rw [List.map_append, List.nodup_append]
   refine ⟨h2, by simp, ?_⟩
   intro a ha b hb e
   obtain ⟨y, hy, rfl⟩ := List.mem_map.1 ha
   simp at hb
   subst hb
   exact h4 y hy e
theorem okTo_all (l : List Ses) : mayP l ↔ okTo l l.length ∧ l.length ≤ 4 := by
 unfold okTo mayP
 rw [List.take_length, and_assoc]
theorem okTo_not {l : List Ses} {n : Nat} {x : Ses} (hx : l[n]? = some x) (h : ¬ (mayB x = true ∧ findS (l.take n) x.draw = -1)) : ¬ mayP l := by
 intro hm
 have hn : n < l.length := (List.getElem?_eq_some_iff.1 hx).1
 obtain ⟨h1, h2, _⟩ := hm
 have : okTo l (n + 1) := by
  refine ⟨fun y hy => h1 y (List.mem_of_mem_take hy), ?_⟩
  rw [List.map_take]
  exact h2.take
 exact h ((okTo_succ hx).1 this).2
end Go.Proofs.YtdinphnljokigaaGreat.P
end

section
namespace Go.Proofs.YtdinphnljokigaaGreat.P
open Go.RowKit Go.Lib Go.Proofs.YtdinphnljokigaaGreatW.PrintWords Go.Proofs.YtdinphnljokigaaGreatW.PrintLast Go.Proofs.YtdinphnljokigaaGreatW.PrintMore
theorem seq_nil_no (ad : Addr) (n c : Nat) (w : World) : Sem.run Tryz.prog (binOp .eql 39 (.slice (some ad) n c) (.slice none 0 0)) w = .ok (.bool false) w := by
 kernel_rfl
theorem seq_nil_yes (n c : Nat) (w : World) : Sem.run Tryz.prog (binOp .eql 39 (.slice none n c) (.slice none 0 0)) w = .ok (.bool true) w := by
 kernel_rfl
theorem infoZ : (Tryz.prog.info? 33).map (fun i => (i.zero, i.size, i.bytes)) = some (some (.agg (sca zses)), 39, 88) := by kernel_rfl
theorem R_lit0 (W : World) : kS.R 33 (W.alloc (.cells #[] 33)) W.heap.size (fun _ => True) (.slice (some ⟨W.heap.size, 0, none⟩) 0 0) ([] : List Ses) :=
 ⟨fun k hk => trivial, [], ⟨by simp, .inr ⟨W.heap.size, 0, #[], rfl, Nat.le_refl _, blk_new W _, Nat.le_refl _, Nat.zero_le _, rfl, rfl⟩⟩, ⟨rfl, fun j p h => by simp at h⟩⟩
set_option maxHeartbeats 400000 in
set_option maxRecDepth 100000 in
theorem clone_any (l : List Ses) (A : Option Addr) (c : Nat) (w : World) (hr : kS.C w A l.length l) (hl : l.length < 1000000) :
  Calls Tryz.prog 52 #[.slice A l.length c] w fun e w' => ∃ v : Value, e = .returned v ∧ kS.R 33 w' w.heap.size (fun _ => True) v l ∧ Below w.heap.size w w' := by
 have HR := aq_ hr
 have HL := aq_ hl
 have HB := aq_ (Below.refl w.heap.size w)
 cases A with
 | none =>
  have hnil : l = [] := by
   rcases l with _ | ⟨x, l⟩
   ·rfl
   ·obtain ⟨ad, e, _⟩ := hr.2.2 (by simp)
    simp at e
  subst hnil
  have e1 := seq_nil_yes 0 c
  clear hr hl
  go_enter Tryz.func52, Tryz.ntmps52
  go_wp2
  go_ret
  exact ⟨_, rfl, Kd.R_nil _ _ _ _ _, HB.out⟩
 | some ad =>
  have e1 := seq_nil_no ad l.length c
  clear hr hl
  go_enter Tryz.func52, Tryz.ntmps52
  go_wp2_with (first | ((with_reducible refine gate_builtin (b := .append) (xs := #[.tmp 5, .tmp 6]) rfl ?_); (try (refine gate_guard (by rfl) ?_; dsimp only)); at_builtin; refine Kd.R_append_rows kS (w0 := w) w.heap.size rfl (.tmp 5) (.tmp 6) 39 33 (.agg (sca zses)) 88 rfl Tryz.underlying39 infoZ (sca_size _) (by decide) (by omega) (.slice (some ⟨w.heap.size, 0, none⟩) 0 0) ([] : List Ses) l _ _ _ (fun _ => True) (fun _ => False) rfl rfl ?aO ?aR (fun _ _ h => h) (fun _ h => h.elim) ?aF ?aB ?aS ?aL ?_; (case aR => exact Kd.C_alloc HR.out _); (case aB => exact below_alloc HB.out _); (case aF => exact fun _ _ => trivial); (case aO => exact R_lit0 w); (case aS => exact below_size (below_alloc HB.out _)); (case aL => have := HL.out; simpa using (by omega : l.length * 88 ≤ 140737488355328)); intro v1 w1 ho hb hg hat; have HO1 := aq_ ho; have HB1 := aq_ hb; clear ho hb hg hat))
  go_ret
  exact ⟨_, rfl, HO1.out, HB1.out⟩
end Go.Proofs.YtdinphnljokigaaGreat.P
end
