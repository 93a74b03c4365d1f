/- A session: its cells, its equality, rows of sessions. -/
import Derived.Test.YtmhphkclgdaajaaHBase
import Derived.ChangeKeysEq
namespace Go.Proofs.Ytmhphkclgdaajaa.P
open Go.RowKit Go.Lib Go.Proofs.YtmhphkclgdaajaaW.PrintWords Go.Proofs.YtmhphkclgdaajaaW.PrintLast Go.Proofs.YtmhphkclgdaajaaW.PrintMore
set_option linter.unusedVariables false
set_option linter.unusedSimpArgs false
/-- A key: 32 bytes. -/
def Key : Type := {l : List Int // l.length = 32}
instance : DecidableEq Key := fun a b => decidable_of_iff (a.1 = b.1) ⟨Subtype.ext, fun h => by rw [h]⟩
def zkey : Key := ⟨List.replicate 32 0, by simp⟩
structure Ses where
  user : Int
  epoch : Int
  draw : Int
  cn : Int
  key : Key
  isOpen : Bool
  count : Int
  last : Int
theorem Ses.eq_iff (a b : Ses) : a = b ↔ (a.user = b.user ∧ a.epoch = b.epoch ∧ a.draw = b.draw ∧ a.cn = b.cn ∧ a.key.1 = b.key.1 ∧ a.isOpen = b.isOpen ∧ a.count = b.count ∧ a.last = b.last) := by
  constructor
  · rintro rfl
    exact ⟨rfl, rfl, rfl, rfl, rfl, rfl, rfl, rfl⟩
  · obtain ⟨a1, a2, a3, a4, ⟨a5, _⟩, a6, a7, a8⟩ := a
    obtain ⟨b1, b2, b3, b4, ⟨b5, _⟩, b6, b7, b8⟩ := b
    rintro ⟨h1, h2, h3, h4, h5, h6, h7, h8⟩
    dsimp only at h1 h2 h3 h4 h5 h6 h7 h8
    subst h1 h2 h3 h4 h5 h6 h7 h8
    rfl
instance : DecidableEq Ses := fun a b => decidable_of_iff _ (Ses.eq_iff a b).symm
def zses : Ses := ⟨0, 0, 0, 0, zkey, false, 0, 0⟩
/-- The cells of a session. -/
def scl (x : Ses) : List Value := .int .i64 x.user :: .int .i64 x.epoch :: .int .u64 x.draw :: .int .u64 x.cn :: (x.key.1.map (Value.int .u8) ++ [Value.bool x.isOpen, Value.int .u64 x.count, Value.int .i64 x.last])
theorem scl_len (x : Ses) : (scl x).length = 39 := by
  have := x.key.2
  simp only [scl, List.length_cons, List.length_append, List.length_map, List.length_nil, this]
theorem scl_one (x : Ses) : ∀ u ∈ scl x, u.oneCell' = true := by
  intro u hu
  simp only [scl, List.mem_cons, List.mem_append, List.mem_map, List.not_mem_nil, or_false] at hu
  rcases hu with rfl | rfl | rfl | rfl | ⟨a, _, rfl⟩ | rfl | rfl | rfl <;> rfl
theorem scl_at (x : Ses) : (scl x)[0]? = some (.int .i64 x.user) ∧ (scl x)[1]? = some (.int .i64 x.epoch) ∧ (scl x)[2]? = some (.int .u64 x.draw) ∧ (scl x)[3]? = some (.int .u64 x.cn) ∧
    (scl x)[36]? = some (.bool x.isOpen) ∧ (scl x)[37]? = some (.int .u64 x.count) ∧ (scl x)[38]? = some (.int .i64 x.last) := by
  have hk := x.key.2
  have hl : (x.key.1.map (Value.int .u8)).length = 32 := by rw [List.length_map, hk]
  refine ⟨rfl, rfl, rfl, rfl, ?_, ?_, ?_⟩
  · show (x.key.1.map (Value.int .u8) ++ [Value.bool x.isOpen, Value.int .u64 x.count, Value.int .i64 x.last])[32]? = _
    rw [List.getElem?_append_right (by omega), hl]
    rfl
  · show (x.key.1.map (Value.int .u8) ++ [Value.bool x.isOpen, Value.int .u64 x.count, Value.int .i64 x.last])[33]? = _
    rw [List.getElem?_append_right (by omega), hl]
    rfl
  · show (x.key.1.map (Value.int .u8) ++ [Value.bool x.isOpen, Value.int .u64 x.count, Value.int .i64 x.last])[34]? = _
    rw [List.getElem?_append_right (by omega), hl]
    rfl
theorem scl_key (x : Ses) : ((scl x).drop 4).take 32 = x.key.1.map (Value.int .u8) := by
  have hl : (x.key.1.map (Value.int .u8)).length = 32 := by rw [List.length_map, x.key.2]
  show (x.key.1.map (Value.int .u8) ++ [Value.bool x.isOpen, Value.int .u64 x.count, Value.int .i64 x.last]).take 32 = _
  exact List.take_left' hl
def sca (x : Ses) : Array Value := (scl x).toArray
theorem sca_size (x : Ses) : (sca x).size = 39 := scl_len x
theorem sca_list (x : Ses) : (sca x).toList = scl x := rfl
/-- The kind of a session. -/
def kS : Kd Ses where
  sz := 39
  E := []
  K := fun _ x cs => cs = scl x
  M := fun _ _ _ x cs => cs = scl x
  K_len := fun h => by rw [h]; exact scl_len _
  K_one := fun h u hu => by
    rw [h] at hu
    exact scl_one _ u hu
  K_below := fun _ h => h
  K_of_M := fun h => h
  M_mono := fun _ h => h
  M_bound := fun h => h
  M_move := fun _ h => h
  M_lower := fun _ h => h
/-! #### two sessions compared -/
def aggD : TypeDesc → Bool
  | .struct _ | .array _ _ => true
  | _ => false
theorem part_cell {w : World} {t : TypeId} {cs : Array Value} {off : Nat} {v : Value} {d : TypeDesc} (hu : Try.prog.underlying t = some d) (hd : aggD d = false) (h : cs[off]? = some v) : (part t cs off).run Try.prog w = .ok v w := by
  unfold part isAgg
  simp only [Sem.run_bind, run_underlying hu w]
  cases d <;> simp_all [aggD]
theorem part_key (w : World) (x : Ses) : (part 33 (sca x) 4).run Try.prog w = .ok (.agg (x.key.1.map (Value.int .u8)).toArray) w := by
  have hi : (Try.prog.info? 33).map (·.size) = some 32 := by kernel_rfl
  cases hq : Try.prog.info? 33 with
  | none => rw [hq] at hi; simp at hi
  | some i =>
    have hs : i.size = 32 := by simpa [hq] using hi
    have he : (sca x).extract 4 (4 + 32) = (x.key.1.map (Value.int .u8)).toArray := by
      apply Array.toList_inj.1
      rw [Array.toList_extract, sca_list]
      show ((scl x).drop 4).take (4 + 32 - 4) = _
      exact scl_key x
    unfold part isAgg
    simp only [Sem.run_bind, run_underlying Try.underlying33 w, Result.andThen_ok, sizeOf, typeInfo, Sem.run_pure, if_true]
    simp [hq, hs, he]
theorem eq_items (w : World) (d : Nat) (k l : List Int) : ∀ (is : List Nat), (∀ i ∈ is, i < k.length ∧ i < l.length) →
    (Op.eqItems (d + 1) 5 1 (k.map (Value.int .u8)).toArray (l.map (Value.int .u8)).toArray is).run Try.prog w = .ok (is.all fun i => k[i]? == l[i]?) w := by
  intro is
  induction is with
  | nil => intro _; simp [Op.eqItems]
  | cons i is ih =>
    intro h
    obtain ⟨h1, h2⟩ := h i (by simp)
    have p1 : (part 5 (k.map (Value.int .u8)).toArray (i * 1)).run Try.prog w = .ok (.int .u8 k[i]) w := part_cell Try.underlying5 rfl (by simp [h1])
    have p2 : (part 5 (l.map (Value.int .u8)).toArray (i * 1)).run Try.prog w = .ok (.int .u8 l[i]) w := part_cell Try.underlying5 rfl (by simp [h2])
    have p3 := run_equalIn_int (P := Try.prog) (w := w) d 5 .u8 .u8 k[i] l[i] Try.underlying5
    simp only [Op.eqItems, Sem.run_bind, p1, p2, p3, Result.andThen_ok]
    have hr := ih (fun j hj => h j (by simp [hj]))
    by_cases e : k[i] = l[i]
    · simp only [e, beq_self_eq_true, Bool.not_true, Bool.false_eq_true, if_false, hr]
      simp [h1, h2, e]
    · have e2 : (k[i] == l[i]) = false := by simpa using e
      simp [e2, h1, h2, e]
theorem eq_key (w : World) (d : Nat) (k l : Key) : (Op.equalIn (d + 2) 33 (.agg (k.1.map (Value.int .u8)).toArray) (.agg (l.1.map (Value.int .u8)).toArray)).run Try.prog w = .ok (decide (k.1 = l.1)) w := by
  have hi : (Try.prog.info? 5).map (·.size) = some 1 := by kernel_rfl
  cases hq : Try.prog.info? 5 with
  | none => rw [hq] at hi; simp at hi
  | some i =>
    have hs : Try.prog.cellsOf 5 = 1 := by kernel_rfl
    rw [run_equalIn_array (P := Try.prog) w (d + 1) _ _ Try.underlying33 hq, hs, eq_items w d k.1 l.1 _ (fun j hj => by rw [k.2, l.2]; have := List.mem_range.1 hj; omega)]
    congr 1
    rw [Bool.eq_iff_iff, List.all_eq_true, decide_eq_true_eq]
    constructor
    · intro h
      apply List.ext_getElem?
      intro j
      by_cases hj : j < 32
      · exact eq_of_beq (h j (List.mem_range.2 hj))
      · rw [List.getElem?_eq_none (by rw [k.2]; omega), List.getElem?_eq_none (by rw [l.2]; omega)]
    · intro h j hj
      rw [h]
      exact beq_self_eq_true _
theorem eq_ses (w : World) (d : Nat) (x y : Ses) : (Op.equalIn (d + 3) 35 (.agg (sca x)) (.agg (sca y))).run Try.prog w = .ok (decide (x = y)) w := by
  have c : ∀ (z : Ses) (t : TypeId) (off : Nat) (v : Value) (de : TypeDesc), Try.prog.underlying t = some de → aggD de = false → (scl z)[off]? = some v → (part t (sca z) off).run Try.prog w = .ok v w := by
    intro z t off v de hu hd h
    exact part_cell hu hd (by rw [sca, List.getElem?_toArray]; exact h)
  obtain ⟨x0, x1, x2, x3, x4, x5, x6⟩ := scl_at x
  obtain ⟨y0, y1, y2, y3, y4, y5, y6⟩ := scl_at y
  have key : (Op.equalIn (d + 3) 35 (.agg (sca x)) (.agg (sca y))).run Try.prog w = .ok ((x.user == y.user) && ((x.epoch == y.epoch) && ((x.draw == y.draw) && ((x.cn == y.cn) && ((decide (x.key.1 = y.key.1)) && ((x.isOpen == y.isOpen) && ((x.count == y.count) && (x.last == y.last)))))))) w := by
    refine eqA_of Try.underlying35 (by kernel_rfl) ?_
    refine eqf_cons (by rfl) (c x _ _ _ _ Try.underlying3 rfl x0) (c y _ _ _ _ Try.underlying3 rfl y0) (run_equalIn_int _ _ _ _ _ _ _ Try.underlying3) ?_
    refine eqf_cons (by rfl) (c x _ _ _ _ Try.underlying3 rfl x1) (c y _ _ _ _ Try.underlying3 rfl y1) (run_equalIn_int _ _ _ _ _ _ _ Try.underlying3) ?_
    refine eqf_cons (by rfl) (c x _ _ _ _ Try.underlying23 rfl x2) (c y _ _ _ _ Try.underlying23 rfl y2) (run_equalIn_int _ _ _ _ _ _ _ Try.underlying23) ?_
    refine eqf_cons (by rfl) (c x _ _ _ _ Try.underlying23 rfl x3) (c y _ _ _ _ Try.underlying23 rfl y3) (run_equalIn_int _ _ _ _ _ _ _ Try.underlying23) ?_
    refine eqf_cons (by rfl) (part_key w x) (part_key w y) (eq_key w d x.key y.key) ?_
    refine eqf_cons (by rfl) (c x _ _ _ _ Try.underlying4 rfl x4) (c y _ _ _ _ Try.underlying4 rfl y4) (run_equalIn_bool' _ _ _ _ _ Try.underlying4) ?_
    refine eqf_cons (by rfl) (c x _ _ _ _ Try.underlying23 rfl x5) (c y _ _ _ _ Try.underlying23 rfl y5) (run_equalIn_int _ _ _ _ _ _ _ Try.underlying23) ?_
    exact eqf_last (by rfl) (c x _ _ _ _ Try.underlying3 rfl x6) (c y _ _ _ _ Try.underlying3 rfl y6) (run_equalIn_int _ _ _ _ _ _ _ Try.underlying3)
  rw [key]
  congr 1
  rw [Bool.eq_iff_iff, decide_eq_true_eq, Ses.eq_iff]
  simp only [Bool.and_eq_true, beq_iff_eq, decide_eq_true_eq]
theorem neq_ses (w : World) (x y : Ses) : (binOp .neq 35 (.agg (sca x)) (.agg (sca y))).run Try.prog w = .ok (.bool (!decide (x = y))) w := by
  show (do pure (Value.bool (!(← Op.equal 35 (.agg (sca x)) (.agg (sca y))))) : Sem Value).run Try.prog w = _
  have h : (Op.equal 35 (.agg (sca x)) (.agg (sca y))).run Try.prog w = .ok (decide (x = y)) w := eq_ses w 9997 x y
  simp only [Sem.run_bind, h, Result.andThen_ok, Sem.run_pure]
end Go.Proofs.Ytmhphkclgdaajaa.P
