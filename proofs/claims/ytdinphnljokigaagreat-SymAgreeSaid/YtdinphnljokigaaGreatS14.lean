/- What LawSymAgree rests on, part 14: several texts put together. -/
import Derived.Test.YtdinphnljokigaaGreatS1
import Derived.Test.YtdinphnljokigaaGreatS2
import Derived.Deep.MidRow
import Derived.Test.YtdinphnljokigaaGreatS13
import Derived.Test.YtdinphnljokigaaGreatS4
import Derived.Below
import Derived.Test.YtdinphnljokigaaGreatS11
import Derived.Laws.Bits64b
import Derived.Test.YtdinphnljokigaaGreatS3
set_option linter.unusedVariables false
set_option linter.unnecessarySimpa false
set_option linter.unusedSimpArgs false
set_option maxRecDepth 100000
section
namespace Go.Proofs.YtdinphnljokigaaGreat.P
open Go.RowKit Go.Proofs.YtdinphnljokigaaGreatW.PrintWords Go.Proofs.YtdinphnljokigaaGreatW.PrintLast
def jk (c : Bool) (v : Value) : Value := cond c v undef
theorem jk_t (v : Value) : jk true v = v := rfl
theorem pe_ : (∀ (a : Act) (d : Tmp) (v : Value), a.put (some d) v = { tmps := a.tmps.setIfInBounds d v, defers := a.defers }) ∧ (∀ (a : Act) (v : Value), a.put none v = a) ∧ (∀ (l : List Value) (i : Nat) (a : Value), l.toArray.setIfInBounds i a = (l.set i a).toArray) ∧ (∀ (x : Value) (xs : List Value) (a : Value), (x :: xs).set 0 a = a :: xs) ∧ (∀ (x : Value) (xs : List Value) (i : Nat) (a : Value), (x :: xs).set (i + 1) a = x :: xs.set i a) ∧ (∀ n : Int, IntKind.i64.wrap n = wrap64 n) ∧ (∀ n : Int, IntKind.i32.wrap n = wrap32 n) :=
  ⟨fun _ _ _ => rfl, fun _ _ => rfl, fun _ _ _ => List.setIfInBounds_toArray _ _ _, fun _ _ _ => rfl, fun _ _ _ _ => rfl, i64_w, i32_w⟩
section
variable {P : Program} {ops : Array Oper} {Q : Exit → Act → World → Prop} {S : World → Prop} {ds : List Nat}
def wpOrd (P : Program) (ops : Array Oper) (Q : Exit → Act → World → Prop) (S : World → Prop) (ds : List Nat) : List Nat → Act → World → Prop
  | [], a, w => Q .normal a w
  | k :: l, a, w => ∃ o, ops[k / 3]? = some o ∧
    (k % 3 = 0 ∧ (∃ v, Yields P ops o v a ∧ wpOrd P ops Q S ds l (a.put o.dst v) w) ∨
     k % 3 = 1 ∧ S w ∧ (∃ v, YieldsIf P ops S o v a ∧ wpOrd P ops Q S ds l (a.put o.dst v) w) ∨
     k % 3 = 2 ∧ wpOp P ops Q (k / 3) (fun a' w' => (k / 3 ∉ ds → S w → S w') ∧ wpOrd P ops Q S ds l a' w') a w)
structure WO (P : Program) (ops : Array Oper) (Q : Exit → Act → World → Prop) (S : World → Prop) (ds : List Nat) (l : List Nat) (a : Act) (w : World) : Prop where
  out : wpOrd P ops Q S ds l a w
def ordB (ops : Array Oper) (ds : List Nat) : Array Bool → List Nat → Bool
  | l, [] => Region.ready .any ops l == []
  | l, k :: r => (if k % 3 = 0 then Region.free .any ops l (k / 3) && (Region.ready .any ops l).contains (k / 3)
      else if k % 3 = 1 then Region.free .any ops l (k / 3) && (Region.ready .any ops l).contains (k / 3) && Region.closedB .any ops l && Region.lastB .any ops l ds (k / 3)
      else Region.ready .any ops l == [k / 3]) && ordB ops ds (l.setIfInBounds (k / 3) true) r
theorem ord_sound (hs : Region.noSelect ops = true) (hQ : ∀ d v c a w, Q (.panic c) (a.put d v) w → Q (.panic c) a w) : ∀ (r : List Nat) (l : Array Bool) (a : Act) (w : World), ordB ops ds l r = true → wpOrd P ops Q S ds r a w → wpAnyLast P .any ops Q S ds r.length l a w
  | [], l, a, w, hB, h => ⟨by simpa [ordB] using hB, h⟩
  | k :: r, l, a, w, hB, h => by
    obtain ⟨o, ho, h⟩ := h
    simp only [ordB, Bool.and_eq_true] at hB
    obtain ⟨hB, hR⟩ := hB
    rcases h with ⟨hk, v, hy, h⟩ | ⟨hk, hS, v, hy, h⟩ | ⟨hk, h⟩
    · rw [if_pos hk, Bool.and_eq_true] at hB
      exact wpAnyLast_any ho (Region.noSelect_spec hs) (fun c a w => hQ _ _ c a w) _ l a w (Region.free_spec ho hB.1) (by simpa using hB.2) hy (ord_sound hs hQ r _ _ _ hR h)
    · rw [if_neg (by omega), if_pos hk] at hB
      simp only [Bool.and_eq_true] at hB
      obtain ⟨⟨⟨h1, h2⟩, h3⟩, h4⟩ := hB
      exact wpAnyLast_take ho hs h1 h2 h3 h4 (fun c a w => hQ _ _ c a w) hy hS (ord_sound hs hQ r _ _ _ hR h)
    · rw [if_neg (by omega), if_neg (by omega), beq_iff_eq] at hB
      refine wpAnyLast_all hB (by simp) fun i hi => ?_
      obtain rfl : i = k / 3 := by simpa using hi
      exact wpOp_mono (fun a' w' h' => ⟨h'.1, ord_sound hs hQ r _ _ _ hR h'.2⟩) h
theorem drawn_ {id : Nat} {a : Act} {w : World} (r : List Nat) (ds : List Nat) (S : World → Prop) (h : ∀ w', Below w.heap.size w w' → WO P ops Q S ds r a w') (hm : P.follows .mixedOrders = true := by kernel_rfl) (hQ : ∀ d v c a w, Q (.panic c) (a.put d v) w → Q (.panic c) a w := by exact fun d _ _ _ _ h => by cases d <;> exact h)
    (hB : (Region.noSelect ops && r.length == ops.size && ordB ops ds (Array.replicate ops.size false) r) = true := by kernel_rfl) : (Code.region id ops true).wp P Q a w := by
  simp only [Bool.and_eq_true, beq_iff_eq] at hB
  refine wp_region_last (S := S) (ds := ds) hm ?_
  have h2 := hB.2
  rw [← hB.1.2] at h2 ⊢
  exact ord_sound hB.1.1 hQ r _ _ _ h2 (h _ (below_drew (Below.refl _ w))).out
theorem drew_ (w : World) : Below w.heap.size w w.drew := below_drew (Below.refl _ w)
theorem WO.nil {a : Act} {w : World} (h : Q .normal a w) : WO P ops Q S ds [] a w := ⟨h⟩
variable {k : Nat} {l : List Nat} {a : Act} {w : World} {oi : Oper} {N : Option Tmp} {v : Value}
theorem p_ {a' : Act} (h : WO P ops Q S ds l a' w) (hk : k % 3 = 0 := by rfl) (hi : ops.toList[k / 3]? = some oi := by rfl) (hN : oi.dst = N := by rfl) (hw : Region.wanted oi (yielded ops a.tmps) = true := by rfl) (hr : ∀ w', (execOp a.eval oi).run P w' = .ok (.value v) w' := by (intro w'; go_simp; with_reducible rfl))
    (ha : a.put N v = a' := by (simp only [pe_]; rfl)) : WO P ops Q S ds (k :: l) a w := by
  rw [Array.getElem?_toList] at hi
  subst hN ha
  exact ⟨⟨oi, hi, .inl ⟨hk, v, .inl ⟨hw, hr⟩, h.out⟩⟩⟩
theorem o_ {a' : Act} (h : WO P ops Q S ds l a' w) (hk : k % 3 = 0 := by rfl) (hi : ops.toList[k / 3]? = some oi := by rfl) (hN : oi.dst = N := by rfl) (hw : Region.wanted oi (yielded ops a.tmps) = false := by rfl) (ha : a.put N undef = a' := by (simp only [pe_]; rfl)) : WO P ops Q S ds (k :: l) a w := by
  rw [Array.getElem?_toList] at hi
  subst hN ha
  exact ⟨⟨oi, hi, .inl ⟨hk, undef, .inr ⟨hw, rfl⟩, h.out⟩⟩⟩
theorem wanted_t {c : Bool} {j : Nat} (hg : oi.guard = some (j, true)) (hy : yielded ops a.tmps j = some c) : Region.wanted oi (yielded ops a.tmps) = c := by
  simp only [Region.wanted, hg, hy]
  cases c <;> rfl
theorem wanted_f {c : Bool} {j : Nat} (hg : oi.guard = some (j, false)) (hy : yielded ops a.tmps j = some c) : Region.wanted oi (yielded ops a.tmps) = !c := by
  simp only [Region.wanted, hg, hy]
  cases c <;> rfl
theorem pb_ {b : Bool} (h : ∀ e, Aside0 (b = e) → WO P ops Q S ds l (a.put N (.bool e)) w) (hk : k % 3 = 0 := by rfl) (hi : ops.toList[k / 3]? = some oi := by rfl) (hN : oi.dst = N := by rfl) (hw : Region.wanted oi (yielded ops a.tmps) = true := by rfl) (hr : ∀ w', (execOp a.eval oi).run P w' = .ok (.value (.bool b)) w' := by (intro w'; go_simp; with_reducible rfl)) : WO P ops Q S ds (k :: l) a w := by
  rw [Array.getElem?_toList] at hi
  subst hN
  exact ⟨⟨oi, hi, .inl ⟨hk, _, .inl ⟨hw, hr⟩, (h _ ⟨rfl⟩).out⟩⟩⟩
theorem wanted_jt {c b : Bool} {j : Nat} {d : Tmp} {oj : Oper} (hg : oi.guard = some (j, true)) (hj : ops.toList[j]? = some oj) (hd : oj.dst = some d) (hy : a.tmps.toList[d]? = some (jk c (.bool b))) : Region.wanted oi (yielded ops a.tmps) = (c && b) := by
  rw [Array.getElem?_toList] at hj hy
  have h : yielded ops a.tmps j = if c = true then some b else none := by
    unfold yielded
    simp only [hj, Option.bind_some, hd, hy]
    cases c <;> rfl
  simp only [Region.wanted, hg, h]
  cases c <;> cases b <;> rfl
theorem wanted_jf {c b : Bool} {j : Nat} {d : Tmp} {oj : Oper} (hg : oi.guard = some (j, false)) (hj : ops.toList[j]? = some oj) (hd : oj.dst = some d) (hy : a.tmps.toList[d]? = some (jk c (.bool b))) : Region.wanted oi (yielded ops a.tmps) = (c && !b) := by
  rw [Array.getElem?_toList] at hj hy
  have h : yielded ops a.tmps j = if c = true then some b else none := by
    unfold yielded
    simp only [hj, Option.bind_some, hd, hy]
    cases c <;> rfl
  simp only [Region.wanted, hg, h]
  cases c <;> cases b <;> rfl
theorem pc_ {a' : Act} {c : Bool} (h : WO P ops Q S ds l a' w) (hk : k % 3 = 0 := by rfl) (hi : ops.toList[k / 3]? = some oi := by rfl) (hN : oi.dst = N := by rfl) (hw : Region.wanted oi (yielded ops a.tmps) = c := by first | exact wanted_t rfl rfl | exact wanted_f rfl rfl | exact wanted_jt rfl rfl rfl rfl | exact wanted_jf rfl rfl rfl rfl)
    (hr : c = true → ∀ w', (execOp a.eval oi).run P w' = .ok (.value v) w' := by (intro hc w'; (first | subst hc | (obtain rfl := Bool.not_eq_true'.1 hc) | (obtain ⟨hc1, hc2⟩ := Bool.and_eq_true_iff.1 hc; subst hc1)); (try simp only [jk_t, Bool.not_false]); go_simp; with_reducible rfl))
    (ha : a.put N (jk c v) = a' := by (simp only [pe_]; rfl)) : WO P ops Q S ds (k :: l) a w := by
  rw [Array.getElem?_toList] at hi
  subst hN ha
  refine ⟨⟨oi, hi, .inl ⟨hk, _, ?_, h.out⟩⟩⟩
  cases c
  · exact .inr ⟨hw, rfl⟩
  · exact .inl ⟨hw, hr rfl⟩
theorem pk_ {c b : Bool} {x y z : Operand} (h : ∀ e, Aside0 ((c && b) = e) → WO P ops Q S ds l (a.put N (.bool e)) w) (hk : k % 3 = 0 := by rfl) (hi : ops.toList[k / 3]? = some oi := by rfl) (hN : oi.dst = N := by rfl) (hw : Region.wanted oi (yielded ops a.tmps) = true := by rfl) (ho : oi.op = .pick x y z := by rfl) (hx : a.eval x = .bool c := by rfl) (hy : a.eval y = jk c (.bool b) := by rfl) (hz : a.eval z = .bool false := by rfl) : WO P ops Q S ds (k :: l) a w := by
  rw [Array.getElem?_toList] at hi
  subst hN
  refine ⟨⟨oi, hi, .inl ⟨hk, _, .inl ⟨hw, fun w' => ?_⟩, (h _ ⟨rfl⟩).out⟩⟩⟩
  unfold execOp
  simp only [ho, hx, hy, hz]
  cases c <;> rfl
theorem nm_ {b : Bool} (h : ∀ e, Aside0 (b = e) → WO P ops Q S ds l (a.put N (.bool e)) w) : WO P ops Q S ds l (a.put N (.bool b)) w := h _ ⟨rfl⟩
theorem run_ld {W : World} {t : TypeId} {x : Operand} {p : Addr} (ho : oi.op = .load t x) (hx : a.eval x = .pointer (some p)) (hc : W.cell? p = some v) (ht : (P.underlying t).map TypeDesc.isRow = some false) : (execOp a.eval oi).run P W = .ok (.value v) W := by
  obtain ⟨d, hd, hr⟩ := Option.map_eq_some_iff.1 ht
  have hagg : (isAgg t).run P W = .ok false W := by
    unfold isAgg
    rw [Sem.run_bind, run_underlying hd W]
    cases d <;> simp_all
  unfold execOp
  simp only [ho, hx, Instr.loadAt, Instr.sureAddr, loadVar, Sem.run_bind, Sem.run_pure, Result.andThen_ok, hagg]
  simp [Go.load, Sem.run, hc]
theorem lt_some {W : World} {g : Nat} {ob : Obj} (X : W.heap[g]? = some ob) : g < W.heap.size := (Array.getElem?_eq_some_iff.1 X).1
theorem cl_ {W : World} {g T j : Nat} {cs : Array Value} (X : W.heap[g]? = some (.cells cs T (0, 0))) (hv : cs.toList[j]? = some v) : W.cell? ⟨g, j, none⟩ = some v := by
  simp only [Array.getElem?_toList] at hv
  simp [World.cell?, X, hv]
theorem ld_ {W : World} {g T t j : Nat} {cs : Array Value} {x : Operand} {a' : Act} (X : W.heap[g]? = some (.cells cs T (0, 0))) (hS : Below W.heap.size W w) (h : WO P ops Q (Below W.heap.size W) ds l a' w) (hk : k % 3 = 1 := by rfl) (hi : ops.toList[k / 3]? = some oi := by rfl) (hN : oi.dst = N := by rfl) (hw : Region.wanted oi (yielded ops a.tmps) = true := by rfl) (ho : oi.op = .load t x := by rfl) (hx : a.eval x = .pointer (some ⟨g, j, none⟩) := by rfl) (hv : cs.toList[j]? = some v := by rfl) (ht : (P.underlying t).map TypeDesc.isRow = some false := by kernel_rfl)
    (ha : a.put N v = a' := by (simp only [pe_]; rfl)) : WO P ops Q (Below W.heap.size W) ds (k :: l) a w := by
  rw [Array.getElem?_toList] at hi
  subst hN ha
  exact ⟨⟨oi, hi, .inr (.inl ⟨hk, hS, v, .inl ⟨hw, fun w' h' => run_ld ho hx (cl_ (by rw [h'.block g (lt_some X)]; exact X) hv) ht⟩, h.out⟩)⟩⟩
theorem ldc_ {W : World} {g T t j : Nat} {c : Bool} {cs : Array Value} {x : Operand} {a' : Act} (X : W.heap[g]? = some (.cells cs T (0, 0))) (hS : Below W.heap.size W w) (h : WO P ops Q (Below W.heap.size W) ds l a' w) (hk : k % 3 = 1 := by rfl) (hi : ops.toList[k / 3]? = some oi := by rfl) (hN : oi.dst = N := by rfl) (hw : Region.wanted oi (yielded ops a.tmps) = c := by first | exact wanted_t rfl rfl | exact wanted_f rfl rfl | exact wanted_jt rfl rfl rfl rfl | exact wanted_jf rfl rfl rfl rfl) (ho : oi.op = .load t x := by rfl)
    (hx : c = true → a.eval x = .pointer (some ⟨g, j, none⟩) := by (intro hc; (first | subst hc | (obtain rfl := Bool.not_eq_true'.1 hc) | (obtain ⟨hc1, hc2⟩ := Bool.and_eq_true_iff.1 hc; subst hc1)); rfl)) (hv : cs.toList[j]? = some v := by rfl) (ht : (P.underlying t).map TypeDesc.isRow = some false := by kernel_rfl)
    (ha : a.put N (jk c v) = a' := by (simp only [pe_]; rfl)) : WO P ops Q (Below W.heap.size W) ds (k :: l) a w := by
  rw [Array.getElem?_toList] at hi
  subst hN ha
  refine ⟨⟨oi, hi, .inr (.inl ⟨hk, hS, _, ?_, h.out⟩)⟩⟩
  cases c
  · exact .inr ⟨hw, rfl⟩
  · exact .inl ⟨hw, fun w' h' => run_ld ho (hx rfl) (cl_ (by rw [h'.block g (lt_some X)]; exact X) hv) ht⟩
theorem _root_.Go.RowKit.Below.go {w w1 w2 : World} (h : Below w.heap.size w w1) (k : Below w1.heap.size w1 w2) : Below w.heap.size w w2 := below_then h h.size k
theorem _root_.Go.RowKit.Below.blk {w w1 : World} {g : Nat} {ob : Obj} (h : Below w.heap.size w w1) (X : w.heap[g]? = some ob) : w1.heap[g]? = some ob := (h.block g (lt_some X)).trans X
theorem run_box {W : World} {t : TypeId} {x : Operand} {cs : Array Value} (ho : oi.op = .box t x) (hx : (a.eval x).cells = cs) : (execOp a.eval oi).run P W = .ok (.value (.pointer (some ⟨W.heap.size, 0, none⟩))) (W.alloc (.cells cs t)) := by
  subst hx
  unfold execOp
  simp only [ho]
  rfl
theorem run_call {W : World} {f : FuncId} {fn : Func} {x : Operand} {xs : Array Operand} {ts : Array TypeId} {args : Array Value} (hf : P.funcs[f]? = some fn) (hname : (fn.name == "runtime.NumGoroutine") = false) (hb : fn.body.isSome = true) (hop : oi.op = .call { callee := .value x, args := xs, argTypes := ts }) (hx : a.eval x = .func (.func f) #[] #[]) (hargs : xs.map a.eval = args) : (execOp a.eval oi).run P W = .ok (.enter f args) W := by
  have he := enters_ hf hname hb args W
  unfold execOp
  simp [hop, hx, resolve, Deferred.ofValue, invoke, hargs, he]
theorem plain_ {id : Nat} (r : List Nat) (ds : List Nat) (S : World → Prop) (h : WO P ops Q S ds r a w) (hB : (r.map (· / 3) == List.range ops.size) = true := by kernel_rfl) : (Code.region id ops false).wp P Q a w := by
  refine wp_region ?_
  rw [← beq_iff_eq.1 hB]
  have key : ∀ (r : List Nat) (a : Act) (w : World), wpOrd P ops Q S ds r a w → wpOps P ops Q (r.map (· / 3)) a w := by
    intro r
    induction r with
    | nil => intro a w h; simpa [wpOps, wpOrd] using h
    | cons k r ih =>
      intro a w h
      rw [List.map_cons, wpOps_cons]
      obtain ⟨o, ho, ⟨_, v, hy, h⟩ | ⟨_, hS, v, hy, h⟩ | ⟨_, h⟩⟩ := h
      · exact hy.wpOp ho (ih _ _ h)
      · exact hy.wpOp ho hS (ih _ _ h)
      · exact wpOp_mono (fun a' w' h' => ih _ _ h'.2) h
  exact key r a w h.out
section
variable {W : World}
theorem lr_ {t : TypeId} {p : Addr} {x : Operand} {a' : Act} (hc : W.cell? p = some v) (hS : Below W.heap.size W w) (h : WO P ops Q (Below W.heap.size W) ds l a' w) (hk : k % 3 = 1 := by rfl) (hi : ops.toList[k / 3]? = some oi := by rfl) (hN : oi.dst = N := by rfl) (hw : Region.wanted oi (yielded ops a.tmps) = true := by rfl) (ho : oi.op = .load t x := by rfl) (hx : a.eval x = .pointer (some p) := by rfl) (ht : (P.underlying t).map TypeDesc.isRow = some false := by kernel_rfl) (ha : a.put N v = a' := by (simp only [pe_]; rfl)) : WO P ops Q (Below W.heap.size W) ds (k :: l) a w := by
  rw [Array.getElem?_toList] at hi
  subst hN ha
  exact ⟨⟨oi, hi, .inr (.inl ⟨hk, hS, v, .inl ⟨hw, fun w' h' => run_ld ho hx (pw_cell_below h' hc) ht⟩, h.out⟩)⟩⟩
theorem lrc_ {t : TypeId} {p : Addr} {c : Bool} {x : Operand} {a' : Act} (hc : c = true → W.cell? p = some v) (hS : Below W.heap.size W w) (h : WO P ops Q (Below W.heap.size W) ds l a' w) (hk : k % 3 = 1 := by rfl) (hi : ops.toList[k / 3]? = some oi := by rfl) (hN : oi.dst = N := by rfl) (hw : Region.wanted oi (yielded ops a.tmps) = c := by first | exact wanted_t rfl rfl | exact wanted_f rfl rfl | exact wanted_jt rfl rfl rfl rfl | exact wanted_jf rfl rfl rfl rfl) (ho : oi.op = .load t x := by rfl) (hx : c = true → a.eval x = .pointer (some p) := by (intro hc; (first | subst hc | (obtain rfl := Bool.not_eq_true'.1 hc) | (obtain ⟨hc1, hc2⟩ := Bool.and_eq_true_iff.1 hc; subst hc1)); rfl)) (ht : (P.underlying t).map TypeDesc.isRow = some false := by kernel_rfl) (ha : a.put N (jk c v) = a' := by (simp only [pe_]; rfl)) : WO P ops Q (Below W.heap.size W) ds (k :: l) a w := by
  rw [Array.getElem?_toList] at hi
  subst hN ha
  refine ⟨⟨oi, hi, .inr (.inl ⟨hk, hS, _, ?_, h.out⟩)⟩⟩
  cases c
  · exact .inr ⟨hw, rfl⟩
  · exact .inl ⟨hw, fun w' h' => run_ld ho (hx rfl) (pw_cell_below h' (hc rfl)) ht⟩
theorem qc_ {a' : Act} {c : Bool} (v : Value) (hS : S w) (h : WO P ops Q S ds l a' w) (hi : ops.toList[k / 3]? = some oi := by rfl) (hr : c = true → ∀ w', S w' → (execOp a.eval oi).run P w' = .ok (.value v) w') (hk : k % 3 = 1 := by rfl) (hN : oi.dst = N := by rfl) (hw : Region.wanted oi (yielded ops a.tmps) = c := by first | exact wanted_t rfl rfl | exact wanted_f rfl rfl | exact wanted_jt rfl rfl rfl rfl | exact wanted_jf rfl rfl rfl rfl) (ha : a.put N (jk c v) = a' := by (simp only [pe_]; rfl)) : WO P ops Q S ds (k :: l) a w := by
  rw [Array.getElem?_toList] at hi
  subst hN ha
  refine ⟨⟨oi, hi, .inr (.inl ⟨hk, hS, _, ?_, h.out⟩)⟩⟩
  cases c
  · exact .inr ⟨hw, rfl⟩
  · exact .inl ⟨hw, hr rfl⟩
theorem e_ (hk : k % 3 = 2) (hi : ops.toList[k / 3]? = some oi) (hw : Region.wanted oi (yielded ops a.tmps) = true) (h : oi.wp P a w (fun a' w' => (k / 3 ∉ ds → S w → S w') ∧ wpOrd P ops Q S ds l a' w') Q) : WO P ops Q S ds (k :: l) a w := by
  rw [Array.getElem?_toList] at hi
  refine ⟨⟨oi, hi, .inr (.inr ⟨hk, ?_⟩)⟩⟩
  unfold wpOp
  simp only [hi, hw, if_true]
  exact .inl h
theorem ev_ {w1 : World} (hrun : (execOp a.eval oi).run P w = .ok (.value v) w1) (hS : k / 3 ∉ ds → S w → S w1) (h : WO P ops Q S ds l (a.put N v) w1) (hk : k % 3 = 2 := by rfl) (hi : ops.toList[k / 3]? = some oi := by rfl) (hN : oi.dst = N := by rfl) (hw : Region.wanted oi (yielded ops a.tmps) = true := by rfl) : WO P ops Q S ds (k :: l) a w := by
  subst hN
  refine e_ hk hi hw ?_
  unfold Oper.wp
  rw [hrun]
  exact ⟨hS, h.out⟩
theorem ec_ {f : FuncId} {fn : Func} {x : Operand} {xs : Array Operand} {ts : Array TypeId} {args : Array Value} (hf : P.funcs[f]? = some fn) (h : Calls P f args w fun e w' => ∃ v, e = .returned v ∧ Below w.heap.size w w' ∧ WO P ops Q (Below W.heap.size W) ds l (a.put N v) w') (hk : k % 3 = 2 := by rfl) (hi : ops.toList[k / 3]? = some oi := by rfl) (hN : oi.dst = N := by rfl) (hw : Region.wanted oi (yielded ops a.tmps) = true := by rfl) (hop : oi.op = .call { callee := .value x, args := xs, argTypes := ts } := by rfl) (hx : a.eval x = .func (.func f) #[] #[] := by rfl) (hname : (fn.name == "runtime.NumGoroutine") = false := by kernel_rfl) (hb : fn.body.isSome = true := by rfl) (hargs : xs.map a.eval = args := by (simp only [List.map_toArray, List.map_cons, List.map_nil]; rfl)) : WO P ops Q (Below W.heap.size W) ds (k :: l) a w := by
  subst hN
  refine e_ hk hi hw ?_
  unfold Oper.wp
  rw [run_call hf hname hb hop hx hargs, Oper.upon_enter]
  refine h.mono fun e w' ⟨v, he, hb, hW⟩ => ?_
  subst he
  exact ⟨fun _ hS => hS.go hb, hW.out⟩
theorem ecc_ {f : FuncId} {fn : Func} {x : Operand} {xs : Array Operand} {ts : Array TypeId} {args : Array Value} {c : Bool} (v : Value) (hf : P.funcs[f]? = some fn) (h : c = true → Calls P f args w fun e w' => e = .returned v ∧ Below w.heap.size w w') (hW : ∀ w', Below w.heap.size w w' → WO P ops Q (Below W.heap.size W) ds l (a.put N (jk c v)) w') (hk : k % 3 = 2 := by rfl) (hi : ops.toList[k / 3]? = some oi := by rfl) (hN : oi.dst = N := by rfl) (hw : Region.wanted oi (yielded ops a.tmps) = c := by first | exact wanted_t rfl rfl | exact wanted_f rfl rfl | exact wanted_jt rfl rfl rfl rfl | exact wanted_jf rfl rfl rfl rfl)
    (hop : oi.op = .call { callee := .value x, args := xs, argTypes := ts } := by rfl) (hx : c = true → a.eval x = .func (.func f) #[] #[] := by (intro hc; (first | subst hc | (obtain rfl := Bool.not_eq_true'.1 hc) | (obtain ⟨hc1, hc2⟩ := Bool.and_eq_true_iff.1 hc; subst hc1)); rfl)) (hname : (fn.name == "runtime.NumGoroutine") = false := by kernel_rfl) (hb : fn.body.isSome = true := by rfl) (hargs : c = true → xs.map a.eval = args := by (intro hc; (first | subst hc | (obtain rfl := Bool.not_eq_true'.1 hc) | (obtain ⟨hc1, hc2⟩ := Bool.and_eq_true_iff.1 hc; subst hc1)); simp only [List.map_toArray, List.map_cons, List.map_nil, jk_t, Bool.not_false]; rfl)) : WO P ops Q (Below W.heap.size W) ds (k :: l) a w := by
  rw [Array.getElem?_toList] at hi
  subst hN
  refine ⟨⟨oi, hi, .inr (.inr ⟨hk, ?_⟩)⟩⟩
  unfold wpOp
  simp only [hi, hw]
  cases c
  · exact ⟨fun _ hS => hS, (hW w (Below.refl _ _)).out⟩
  · refine .inl ?_
    unfold Oper.wp
    rw [run_call hf hname hb hop (hx rfl) (hargs rfl), Oper.upon_enter]
    refine (h rfl).mono fun e w' ⟨he, hb⟩ => ?_
    subst he
    exact ⟨fun _ hS => hS.go hb, (hW w' hb).out⟩
end
variable {rest : List Oper} {o : Oper}
theorem bx_ {t : TypeId} {x : Operand} {cs : Array Value} (ho : o.op = .box t x) (hgd : o.guard = none) (hx : (a.eval x).cells = cs) (h : ∀ g, g = w.heap.size → ∀ w1 : World, w1.heap[g]? = some (.cells cs t (0, 0)) → Below w.heap.size w w1 → wpList P ops Q rest (a.put o.dst (.pointer (some ⟨g, 0, none⟩))) w1) : wpList P ops Q (o :: rest) a w :=
  Kd.event_run hgd (run_box ho hx) (h _ rfl _ (blk_new w _) (below_alloc (Below.refl _ _) _))
theorem ldL_ {W : World} {g T t j : Nat} {cs : Array Value} {x : Operand} (X : W.heap[g]? = some (.cells cs T (0, 0))) (hS : Below W.heap.size W w) (ho : o.op = .load t x) (hgd : o.guard = none) (hx : a.eval x = .pointer (some ⟨g, j, none⟩)) (hv : cs.toList[j]? = some v) (ht : (P.underlying t).map TypeDesc.isRow = some false) (h : wpList P ops Q rest (a.put o.dst v) w) : wpList P ops Q (o :: rest) a w :=
  Kd.event_run hgd (run_ld ho hx (cl_ (hS.blk X) hv) ht) h
end
end Go.Proofs.YtdinphnljokigaaGreat.P
end

section
namespace Go.Proofs.YtdinphnljokigaaGreat.P
open Go.RowKit Go.Lib Go.Proofs.YtdinphnljokigaaGreatW.PrintWords Go.Proofs.YtdinphnljokigaaGreatW.PrintLast Go.Proofs.YtdinphnljokigaaGreatW.PrintMore
theorem goesv_ {P : Program} {ops : Array Oper} {Q : Exit → Act → World → Prop} {oi : Oper} {N : Option Tmp} {a : Act} {w : World} {K : Act → World → Prop} {f : FuncId} {fn : Func} {c : Operand} {xs : Array Operand} {ts : Array TypeId} (hf : P.funcs[f]? = some fn) (hname : (fn.name == "runtime.NumGoroutine") = false) (hb : fn.body.isSome = true) (args : Array Value)
  (hw : Region.wanted oi (yielded ops a.tmps) = true) (hN : oi.dst = N) (hop : oi.op = .call { callee := .value c, args := xs, argTypes := ts }) (hc : a.eval c = .func (.func f) #[] #[]) (hargs : xs.map a.eval = args)
  (h : Calls P f args w fun e w' => ∃ v, e = .returned v ∧ K (a.put N v) w') : if Region.wanted oi (yielded ops a.tmps) = true then Oper.wp P oi a w K Q else K (a.put N undef) w := by
 refine call_ f args hw hN ?_ h
 have he := enters_ hf hname hb args w
 unfold execOp
 simp [hop, hc, resolve, Deferred.ofValue, invoke, hargs, he]
def kindB (k : Int) : Bool := decide (0 ≤ k) && decide (k < 7)
theorem kind_any (k : Int) (w : World) : Calls Tryz.prog 107 #[.int .i64 k] w fun e w' => e = .returned (.bool (kindB k)) ∧ w = w' := by
 by_cases h1 : 0 ≤ k
 ·by_cases h2 : k < 7
  ·go_enter Tryz.func107, Tryz.ntmps107
   go_wp2
   go_ret
   exact ⟨ret_bool (by simp [kindB, h1, h2]), rfl⟩
  ·go_enter Tryz.func107, Tryz.ntmps107
   go_wp2
   go_ret
   exact ⟨ret_bool (by simp [kindB, h1, h2]), rfl⟩
 ·have h3 : decide (0 ≤ k) = false := by simpa using h1
  go_enter Tryz.func107, Tryz.ntmps107
  go_wp2
  go_ret
  exact ⟨ret_bool (by simp [kindB]; omega), rfl⟩
theorem pin_any (n m : Int) (w : World) : Calls Tryz.prog 106 #[.int .i64 n, .int .i64 m] w fun e w' => e = .returned (.bool (inB n 0 m)) ∧ w = w' := by
 by_cases h1 : 0 ≤ n
 ·by_cases h2 : n ≤ m
  ·go_enter Tryz.func106, Tryz.ntmps106
   go_wp2
   go_ret
   exact ⟨ret_bool (by simp [inB, h1, h2]), rfl⟩
  ·go_enter Tryz.func106, Tryz.ntmps106
   go_wp2
   go_ret
   exact ⟨ret_bool (by simp [inB, h1, h2]), rfl⟩
 ·have h3 : decide (0 ≤ n) = false := by simpa using h1
  go_enter Tryz.func106, Tryz.ntmps106
  go_wp2
  go_ret
  exact ⟨ret_bool (by simp [inB]; omega), rfl⟩
def plainF (f : Frm) : Bool := kindB f.kind && (inB f.user 0 255 && (inB f.epoch 0 1073741824 && (inB f.cmd 0 255 && (inB f.arg 0 65535 && decide (bareF f = f)))))
set_option maxHeartbeats 4000000 in
theorem plain_any (f : Frm) (w : World) : Calls Tryz.prog 89 #[.agg (fca f)] w fun e w' => e = .returned (.bool (plainF f)) ∧ Below w.heap.size w w' := by
 have heq : ∀ W : World, (binOp .eql 31 (.agg (fca (bareF f))) (.agg (fca f))).run Tryz.prog W = .ok (.bool (decide (bareF f = f))) W := fun W => eql_frm W _ _
 go_enter Tryz.func89, Tryz.ntmps89
 go_upto_region 2 with ((with_reducible refine bx_ (cs := fca f) rfl rfl rfl ?_); intro g1 hg w1 X1 H1; clear hg; have H := Below.refl w1.heap.size w1)
 refine drawn_ [0,4,8,9,12,15,19,23,24,27,30,33,37,41,42,45,48,51,55,59,60,63,66,69,73,77,78,81,85,91,89,93,96,99] [] (Below w1.heap.size w1) fun wd d_ => ?_
 replace H := H.go d_; clear d_
 refine p_ ?_
 refine ld_ X1 H ?_
 refine ec_ Tryz.func107 ?_
 refine (kind_any f.kind _).mono ?_
 rintro e w2 ⟨rfl, rfl⟩
 refine ⟨_, rfl, Below.refl _ _, ?_⟩
 refine nm_ fun k1 hk1 => ?_
 refine p_ ?_
 refine pc_ ?_
 refine pc_ ?_
 refine ldc_ X1 H ?_
 refine ecc_ (.bool (inB f.user 0 255)) Tryz.func106 (fun _ => (pin_any f.user 255 _).mono fun e w3 h => ⟨h.1, h.2 ▸ Below.refl _ _⟩) (fun w3 hb => ?_)
 replace H := H.go hb
 clear hb
 refine pk_ fun c1 hc1 => ?_
 refine p_ ?_
 refine pc_ ?_
 refine pc_ ?_
 refine ldc_ X1 H ?_
 refine ecc_ (.bool (inB f.epoch 0 1073741824)) Tryz.func106 (fun _ => (pin_any f.epoch 1073741824 _).mono fun e w3 h => ⟨h.1, h.2 ▸ Below.refl _ _⟩) (fun w3 hb => ?_)
 replace H := H.go hb
 clear hb
 refine pk_ fun c2 hc2 => ?_
 refine p_ ?_
 refine pc_ ?_
 refine pc_ ?_
 refine ldc_ X1 H ?_
 refine ecc_ (.bool (inB f.cmd 0 255)) Tryz.func106 (fun _ => (pin_any f.cmd 255 _).mono fun e w3 h => ⟨h.1, h.2 ▸ Below.refl _ _⟩) (fun w3 hb => ?_)
 replace H := H.go hb
 clear hb
 refine pk_ fun c3 hc3 => ?_
 refine p_ ?_
 refine pc_ ?_
 refine pc_ ?_
 refine ldc_ X1 H ?_
 refine ecc_ (.bool (inB f.arg 0 65535)) Tryz.func106 (fun _ => (pin_any f.arg 65535 _).mono fun e w3 h => ⟨h.1, h.2 ▸ Below.refl _ _⟩) (fun w3 hb => ?_)
 replace H := H.go hb
 clear hb
 refine pk_ fun c4 hc4 => ?_
 refine p_ ?_
 refine qc_ (.agg (fca f)) H ?_ (hr := fun _ w5 h5 => exec_loadF (.tmp 1) rfl rfl (cells_boxF (h5.blk X1)))
 refine qc_ (.agg (fca f)) H ?_ (hr := fun _ w5 h5 => exec_loadF (.tmp 1) rfl rfl (cells_boxF (h5.blk X1)))
 refine ecc_ (c := c4) (.agg (fca (bareF f))) Tryz.func108 (fun hc => bare_any f _ (by have h := hc; rw [← hc4.out, ← hc3.out, ← hc2.out, ← hc1.out, ← hk1.out] at h; simp [kindB] at h; omega) (by have h := hc; rw [← hc4.out, ← hc3.out, ← hc2.out, ← hc1.out, ← hk1.out] at h; simp [kindB] at h; omega)) (fun w4 hb => ?_)
 replace H := H.go hb
 clear hb
 refine pc_ ?_
 refine pk_ fun c5 hc5 => ?_
 refine p_ ?_
 refine WO.nil ?_
 go_wp2
 go_ret
 exact ⟨ret_bool (by rw [← hc5.out, ← hc4.out, ← hc3.out, ← hc2.out, ← hc1.out, ← hk1.out]; simp [plainF, Bool.and_assoc]), H1.go H⟩
theorem info5 : (Tryz.prog.info? 5).map (fun i => (i.zero, i.size, i.bytes)) = some (some (.int .u8 0), 1, 1) := by kernel_rfl
theorem infoN : (Tryz.prog.info? 140).map (fun i => (i.zero, i.size, i.bytes)) = some (some (.agg #[(.int .u64 0), (.int .i64 0)]), 2, 16) := by kernel_rfl
structure S41 where
 f0 : Int
 f1 : Int
def z41 : S41 := ⟨(0 : Int), (0 : Int)⟩
def k41 : Kd S41 := Kd.iso (Kd.pair (Kd.int .u64) (Kd.int .i64)) (fun x : S41 => (x.f0, x.f1))
theorem k41_open {w : World} {x : S41} {cs : List Value} (h : k41.K w x cs) : cs = [.int .u64 x.f0, .int .i64 x.f1] := by
 obtain ⟨_, _, rfl, rfl, rfl⟩ := h
 exact rfl
theorem k41_openM {w : World} {base : Nat} {ok : Nat → Prop} {x : S41} {cs : List Value} (h : k41.M w base ok x cs) : cs = [.int .u64 x.f0, .int .i64 x.f1] := by
 obtain ⟨_, _, rfl, rfl, rfl⟩ := h
 exact rfl
theorem k41_mkM (w : World) (base : Nat) (ok : Nat → Prop) (x : S41)  : k41.M w base ok x [.int .u64 x.f0, .int .i64 x.f1] := ⟨[.int .u64 x.f0], [.int .i64 x.f1], rfl, rfl, rfl⟩
def rd_T41 (xs : List S41) (i : Int) : S41 := xs.getD i.toNat z41
theorem at_T41 {w : World} {A : Option Addr} {n : Nat} {xs : List S41} (h : Kd.C k41 w A n xs) (i : Int) (h0 : 0 ≤ i) (h1 : i < n) : ∃ ad , A = some ad ∧ w.cell? (ad.add (i.toNat * 2)) = some (.int .u64 (rd_T41 xs i).f0) ∧ w.cell? ⟨(ad.add (i.toNat * 2)).block, (ad.add (i.toNat * 2)).off + 1, none⟩ = some (.int .i64 (rd_T41 xs i).f1) := by
 obtain ⟨ad, c, e, _, hK, hc0⟩ := Kd.C_get h z41 i h0 h1
 have hc : ∀ j u, c[j]? = some u → w.cell? (ad.add (i.toNat * 2 + j)) = some u := hc0
 obtain rfl := k41_open hK
 exact ⟨ad, e, hc 0 _ rfl, by rw [← add_field _ _ 1 (by omega)]; exact hc 1 _ rfl⟩
end Go.Proofs.YtdinphnljokigaaGreat.P
end

section
namespace Go.Proofs.YtdinphnljokigaaGreat.P
def be : Nat → Int → List Int
 | 0, _ => []
 | k + 1, n => be k (n / 256) ++ [n % 256]
theorem be_length (k : Nat) : ∀ n, (be k n).length = k := by
 induction k with
 | zero => intro n; rfl
 | succ k ih => intro n; simp [be, ih]
def putL : Nat → Int → List Int → List Int
 | 0, _, xs => xs
 | m + 1, n, xs => putL m (n / 256) (xs.set m (n % 256))
theorem putL_be (m : Nat) : ∀ (n : Int) (xs : List Int), m ≤ xs.length → putL m n xs = be m n ++ xs.drop m := by
 induction m with
 | zero => intro n xs _; simp [putL, be]
 | succ m ih =>
  intro n xs h
  rw [putL, ih _ _ (by simp; omega), be, List.append_assoc]
  congr 1
  rw [List.drop_set, if_neg (by omega), Nat.sub_self, List.drop_eq_getElem_cons (by omega)]
  rfl
def fits (n k : Int) : Prop := 1 ≤ k ∧ k ≤ 8 ∧ n < 256 ^ k.toNat
instance (n k : Int) : Decidable (fits n k) := by unfold fits; infer_instance
end Go.Proofs.YtdinphnljokigaaGreat.P
end

section
namespace Go.Proofs.YtdinphnljokigaaGreat.P
open Go.RowKit Go.Proofs.YtdinphnljokigaaGreatW.PrintWords Go.Proofs.YtdinphnljokigaaGreatW.PrintLast Go.Proofs.YtdinphnljokigaaGreatW.PrintMore
def num_Put.f (a0 : Int) (a1 : Int) : Option (List Int × Bool) :=
 if 0 ≤ a0 ∧ a0 < 18446744073709551616 then some (if fits a0 a1 then (be a1.toNat a0, true) else ([], false)) else none
set_option maxHeartbeats 1000000 in
set_option maxRecDepth 100000 in
theorem put_no (a0 a1 : Int) (w : World) (h0 : 0 ≤ a0) (h1 : a0 < 18446744073709551616) (h : ¬ (1 ≤ a1 ∧ a1 ≤ 8)) :
  Calls Tryz.prog 113 #[.int .u64 a0, .int .i64 a1] w fun e w' => e = .returned (.tuple #[.slice none 0 0, .bool false]) ∧ w' = w := by
 clear h0 h1
 by_cases h2 : 1 ≤ a1
 ·have h3 : 8 < a1 := by omega
  clear h
  go_enter Tryz.func113, Tryz.ntmps113
  go_wp2
  go_step3
  go_wp2
  go_ret2
  exact ⟨rfl, rfl⟩
 ·have h3 : a1 < 1 := by omega
  clear h h2
  go_enter Tryz.func113, Tryz.ntmps113
  go_wp2
  go_step3
  go_wp2
  go_ret2
  exact ⟨rfl, rfl⟩
set_option maxHeartbeats 1000000 in
set_option maxRecDepth 100000 in
theorem put_big (a0 a1 : Int) (w : World) (h0 : 0 ≤ a0) (h1 : a0 < 18446744073709551616) (h2 : 1 ≤ a1) (h3 : a1 < 8) (h4 : (a0 / 2 ^ (8 * a1).toNat != 0) = true) :
  Calls Tryz.prog 113 #[.int .u64 a0, .int .i64 a1] w fun e w' => e = .returned (.tuple #[.slice none 0 0, .bool false]) ∧ w' = w := by
 go_enter Tryz.func113, Tryz.ntmps113
 go_wp2
 go_step3
 go_wp2
 rw [Exit.noGoto_ret]
 go_ret2
 exact ⟨rfl, rfl⟩
def PutJ (w : World) (a0 a1 : Int) (a' : Act) (w' : World) : Prop := ∃ (m : Nat) (i : Int) (n : Int) (xs : List Int) (v : Value) (u8 u9 u10 u11 u12 u13 u14 u15 u16 u17 u18 u19 u20 u21 u22 u23 u24 u25 u26 u27 u28 u29 u30 u31 u32 u33 u34 u35 u36 u37 : Value),
 a' = { tmps := #[.int .u64 n, .int .i64 a1, undef, undef, .slice none 0 0, .bool false, v, .int .i64 i, u8, u9, u10, u11, u12, u13, u14, u15, u16, u17, u18, u19, u20, u21, u22, u23, u24, u25, u26, u27, u28, u29, u30, u31, u32, u33, u34, u35, u36, u37], defers := [] } ∧
 Aside0 (i = m) ∧ m < a1.toNat ∧ Aside0 (putL (m + 1) n xs = be a1.toNat a0) ∧ Aside0 (xs.length = a1.toNat) ∧ 0 ≤ n ∧ n < 18446744073709551616 ∧
 Aside0 (Kd.R (Kd.int .u8) 5 w' w.heap.size (fun _ => True) v xs) ∧ Aside0 (Below w.heap.size w w')
def putM (a' : Act) (_ : World) : Nat := (intOf (a'.tmps.getD 7 undef)).toNat
set_option maxHeartbeats 1000000 in
set_option maxRecDepth 100000 in
theorem put_yes (a0 a1 : Int) (w : World) (h0 : 0 ≤ a0) (h1 : a0 < 18446744073709551616) (h2 : 1 ≤ a1) (h3 : a1 ≤ 8) (h4 : a1 < 8 → (a0 / 2 ^ (8 * a1).toNat != 0) = false) :
  Calls Tryz.prog 113 #[.int .u64 a0, .int .i64 a1] w fun e w' => ∃ v0_ : Value, e = .returned (.tuple #[v0_, .bool true]) ∧ Kd.R (Kd.int .u8) 5 w' w.heap.size (fun _ => True) v0_ (be a1.toNat a0) ∧ Below w.heap.size w w' := by
 have HB := aq_ (Below.refl w.heap.size w)
 have hfin := putL_be a1.toNat a0 (List.replicate a1.toNat 0) (by simp)
 rw [List.drop_of_length_le (by simp), List.append_nil] at hfin
 have HF := aq_ hfin
 clear hfin
 have c6b1 : decide (0 ≤ a1) = true := decide_eq_true (by omega)
 have c7b1 : decide ((a1 : Int).toNat ≤ 281474976710656) = true := decide_eq_true (by omega)
 obtain ⟨y106, hy106⟩ : ∃ y_ : List Int, y_ = (List.replicate (a1 : Int).toNat 0) := ⟨_, rfl⟩
 have Ny106 := aq_ hy106
 clear hy106
 go_enter Tryz.func113, Tryz.ntmps113
 go_wp2
 refine wp_scope_loop 0 (PutJ w a0 a1) putM rfl ?_ ?_
 ·rintro a' w' ⟨m, _, n, xs, v, u8, u9, u10, u11, u12, u13, u14, u15, u16, u17, u18, u19, u20, u21, u22, u23, u24, u25, u26, u27, u28, u29, u30, u31, u32, u33, u34, u35, u36, u37, rfl, ⟨rfl⟩, hm, HS, HX, hn0, hn1, HO, HB1⟩
  obtain ⟨go13, co13, eo13, gb13, gl13, cl13, HG13⟩ := Kd.R_form HO.out (by have := HX.out; omega)
  subst eo13
  have GB13 := aq_ gb13
  clear gb13 gl13 HG13
  have hl13 : (m : Int) < (xs.length : Int) := by have := HX.out; omega
  obtain ⟨hx13, hf13⟩ := Kd.R_celln 0 HO.out (m : Int) (by omega) hl13
  rw [Int.toNat_natCast] at hx13 hf13
  have HP14 := Kd.R_putg HO.out (m : Int) (n % 256)
  rw [Int.toNat_natCast] at HP14
  have hm1 : (m : Int) ≤ 7 := by omega
  go_wp2_with (first | ((with_reducible refine gate_store (t := 5) (p := 30) rfl ?_); refine store_event (t := 5) (p := 30) (v := ?vo_w15) (w1 := (w'.setCell ⟨go13, m, none⟩ (.int .u8 (n % 256)))) ?hg ?ho ?hn ?hr ?_; (case ho => rfl); (case hg => rfl); (case hn => rfl); (case hr => first | (go_simp; done) | (go_simp; rfl)); intro w15 hw; have HO2 := aq_ (show Kd.R (Kd.int .u8) 5 w15 w.heap.size (fun _ => True) (.slice (some ⟨go13, 0, none⟩) xs.length co13) (xs.set m (n % 256)) by rw [hw]; exact HP14.1); have HB2 := aq_ (show Below w.heap.size w w15 by rw [hw]; exact below_set HB1.out GB13.out); clear HP14 hw hx13 hf13 HO HB1))
  ·go_step3
   have hpos : 1 ≤ (m : Int) := by assumption
   refine ⟨rfl, ⟨m - 1, _, _, xs.set m (n % 256), _, _, _, _, _, _, _, _, _, _, _, _, _, _, _, _, _, _, _, _, _, _, _, _, _, _, _, _, _, _, _, rfl, ⟨by omega⟩, by omega, ⟨?_⟩, ⟨by rw [List.length_set]; exact HX.out⟩, by omega, by omega, HO2, HB2⟩, ?_⟩
   ·rw [show m - 1 + 1 = m by omega, ← HS.out]; rfl
   ·show (intOf (.int .i64 ((m : Int) - 1))).toNat < (intOf (.int .i64 (m : Int))).toNat
    simp [intOf]
    omega
  ·have hneg : (m : Int) < 1 := by assumption
   obtain rfl : m = 0 := by omega
   simp only [Exit.jump]
   go_ret2
   refine ⟨_, rfl, ?_, HB2.out⟩
   have hs := HS.out
   simp only [putL] at hs
   rw [← hs]
   exact HO2.out
 ·intro hpass
  by_cases hlt : a1 < 8
  all_goals
   go_wp2_with (first | ((with_reducible refine gate_dst (N := 23) rfl ?_); refine Kd.R_make (Kd.int .u8) _ 5 rfl (N := 23) rfl 64 _ _ rfl a1 rfl rfl Tryz.underlying64 (.int .u8 0) 1 info5 rfl (by decide) (by omega) 0 (ok := fun _ => True) (okp := fun _ => True) rfl (fun _ hk => hk) trivial (of_decide_eq_true (by first | (with_reducible assumption) | assumption)) (Nat.le_trans (Nat.mul_le_mul_right _ (of_decide_eq_true (by first | (with_reducible assumption) | assumption) : a1.toNat ≤ 281474976710656)) (by omega)) (Below.refl _ _) (Nat.le_refl _) ?_; intro v107 w8 ho9 hb hg_ hnew_; clear hg_ hnew_; rw [← Ny106.out] at ho9; have HO := aq_ (Kd.R_lower ho9 (below_size HB.out)); have HB2 := aq_ (below_step HB.out hb); clear hb ho9) | go_in)
   go_step3
   refine ‹∀ (a : Act) (w : World), Code.wp _ _ _ a w → _› _ _ (hpass _ _ ?_)
   refine ⟨a1.toNat - 1, a1 - 1, _, y106, v107, _, _, _, _, _, _, _, _, _, _, _, _, _, _, _, _, _, _, _, _, _, _, _, _, _, _, _, _, _, _, rfl, ⟨by omega⟩, by omega, ⟨?_⟩, ⟨by rw [Ny106.out, List.length_replicate]⟩, h0, h1, HO, HB2⟩
   rw [show a1.toNat - 1 + 1 = a1.toNat by omega, Ny106.out]; exact HF.out
theorem shr_fits (a0 a1 : Int) (h0 : 0 ≤ a0) (h2 : 1 ≤ a1) (h3 : a1 ≤ 8) : (a0 / 2 ^ (8 * a1).toNat = 0) ↔ a0 < 256 ^ a1.toNat := by
 have e : (2 : Int) ^ (8 * a1).toNat = 256 ^ a1.toNat := by
  rw [show (8 * a1).toNat = 8 * a1.toNat by omega, Int.pow_mul]
  rfl
 rw [e]
 constructor
 ·intro h
  have hp : (0 : Int) < 256 ^ a1.toNat := Int.pow_pos (by omega)
  have := Int.lt_ediv_add_one_mul_self a0 hp
  rw [h] at this
  omega
 ·exact fun h => Int.ediv_eq_zero_of_lt h0 h
theorem num_Put.calls (a0 : Int) (a1 : Int) (r1 : List Int) (r2 : Bool) (w : World) (h : num_Put.f a0 a1 = some (r1, r2)) :
  Calls Tryz.prog 113 #[.int .u64 a0, .int .i64 a1] w fun e w' => ∃ v0_ : Value, e = .returned (.tuple #[v0_, .bool r2]) ∧ Kd.R (Kd.int .u8) 5 w' w.heap.size (fun _ => True) v0_ r1 ∧ Below w.heap.size w w' := by
 unfold num_Put.f at h
 by_cases hb : 0 ≤ a0 ∧ a0 < 18446744073709551616
 ·rw [if_pos hb] at h
  by_cases hg : fits a0 a1
  ·rw [if_pos hg] at h
   simp only [Option.some.injEq, Prod.mk.injEq] at h
   obtain ⟨rfl, rfl⟩ := h
   exact put_yes a0 a1 w hb.1 hb.2 hg.1 hg.2.1 fun _ => bne_eq_false_iff_eq.mpr ((shr_fits a0 a1 hb.1 hg.1 hg.2.1).2 hg.2.2)
  ·rw [if_neg hg] at h
   simp only [Option.some.injEq, Prod.mk.injEq] at h
   obtain ⟨rfl, rfl⟩ := h
   have hno : Calls Tryz.prog 113 #[.int .u64 a0, .int .i64 a1] w fun e w' => e = .returned (.tuple #[.slice none 0 0, .bool false]) ∧ w' = w := by
    by_cases hk : 1 ≤ a1 ∧ a1 ≤ 8
    ·have h8 : a1 < 8 := by
      by_cases h8 : a1 = 8
      ·exact absurd ⟨hk.1, hk.2, by rw [h8]; exact hb.2⟩ hg
      ·omega
     exact put_big a0 a1 w hb.1 hb.2 hk.1 h8 (bne_iff_ne.mpr fun hz => hg ⟨hk.1, hk.2, (shr_fits a0 a1 hb.1 hk.1 hk.2).1 hz⟩)
    ·exact put_no a0 a1 w hb.1 hb.2 hk
   refine hno.mono ?_
   rintro e w' ⟨rfl, rfl⟩
   exact ⟨_, rfl, Kd.R_nil _ _ _ _ _, Below.refl _ _⟩
 ·rw [if_neg hb] at h
  cases h
end Go.Proofs.YtdinphnljokigaaGreat.P
end
