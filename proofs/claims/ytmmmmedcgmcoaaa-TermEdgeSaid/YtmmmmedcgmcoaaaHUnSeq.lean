/- By hand: term.steps and what it yields. -/
import Derived.Test.YtmmmmedcgmcoaaaHRowSeq
import Derived.Test.YtmmmmedcgmcoaaaHRangeBox
import Derived.Deep.LoopGhost
import Derived.Lib.BufferOwn
import Derived.RangeFuncNested
import Derived.RangeFuncBound
import Derived.RangeFuncCalls
import Derived.RangeFuncLeaves
import Derived.RangeFuncBox
import Derived.OwnWalkIn
import Derived.TacticsInMore
import Derived.LoopNIn
import Derived.LoopIn
namespace Go.Proofs.Ytmmmmedcgmcoaaa.P
open Go.RowKit Go.Shelf Go.Proofs.YtmmmmedcgmcoaaaW.PrintWords Go.Proofs.YtmmmmedcgmcoaaaW.PrintLast Go.Proofs.YtmmmmedcgmcoaaaW.PrintMore
set_option linter.unusedVariables false
set_option linter.unusedSimpArgs false
attribute [local go_sem] Oper.semAt_some
/-- The terms that a term's spine bears. -/
def stepsL : S24 → List S24
  | ⟨2, n, [a, b]⟩ => a :: stepsL b
  | x => [x]
theorem stepsL_fork (n : Int) (a b : S24) : stepsL ⟨2, n, [a, b]⟩ = a :: stepsL b := by rw [stepsL]
theorem stepsL_leaf (x : S24) (h : ¬ (x.f0 = 2 ∧ x.f2.length = 2)) : stepsL x = [x] := by
  rcases x with ⟨k, n, l⟩
  rw [stepsL]
  rintro n' a b e
  injection e with e1 e2 e3
  exact h ⟨e1, by show l.length = 2; rw [e3]; rfl⟩
theorem fork_of {x : S24} (h : x.f0 = 2 ∧ x.f2.length = 2) : ∃ n a b, x = ⟨2, n, [a, b]⟩ := by
  rcases x with ⟨k, n, l⟩
  obtain ⟨h1, h2⟩ := h
  match l, h2 with
  | [a, b], _ => exact ⟨n, a, b, by cases h1; rfl⟩
def encT (x : Int × Int × Option Addr × Nat × Nat) : Array Value := #[.agg #[.int .i64 x.1, .int .i64 x.2.1, .slice x.2.2.1 x.2.2.2.1 x.2.2.2.2]]
/-- What holds between two rounds. -/
def StepR (w0 : World) (Bs : Nat) (x : S24) (J : List (Int × Int × Option Addr × Nat × Nat) → World → Prop) (n : Nat) (wr : World) : Prop :=
  ∃ (pre : List (Int × Int × Option Addr × Nat × Nat)) (y : S24) (A : Option Addr) (c : Nat), tsize y ≤ n ∧ pre.map (fun z => z.2.1) ++ (stepsL y).map (fun z => z.f1) = (stepsL x).map (fun z => z.f1) ∧ J pre wr ∧ Below w0.heap.size w0 wr ∧
    wr.heap[Bs]? = some (.cells #[.int .i64 y.f0, .int .i64 y.f1, .slice A y.f2.length c] 24 (0, 0)) ∧ Kd.C k24 w0 A y.f2.length y.f2
theorem steps_in (F : Fence) (n : Nat) (h29 : F.fn 29) (hro : F.round = none) (k m : Int) (v : Value) (w : World) :
    CallsIn F n Try.prog 29 #[.agg #[.int .i64 k, .int .i64 m, v]] w fun e w' => e = .returned (.func (.func 39) #[] #[.pointer (some ⟨w.heap.size, 0, none⟩)]) ∧ w' = w.alloc (.cells #[.int .i64 k, .int .i64 m, v] 24 (0, 0)) := by
  refine callsIn_of_wp Try.func29 rfl h29 ?_ hro
  simp only [Try.ntmps29, List.size_toArray, List.length_cons, List.length_nil, Nat.reduceAdd, Nat.reduceSub, Array.replicate_succ, Array.replicate_zero, List.push_toArray, List.append_toArray, List.nil_append, List.cons_append]
  gi_wp2
  go_ret
  exact ⟨rfl, rfl⟩
set_option maxRecDepth 100000 in
set_option maxHeartbeats 2000000 in
theorem steps1_in (F : Fence) (n : Nat) (h39 : F.fn 39) (hro : F.round = none) (hn : 1 ≤ n) (lk Bs : Nat) (w0 : World) (A : Option Addr) (c : Nat) (x : S24) (J : List (Int × Int × Option Addr × Nat × Nat) → World → Prop)
    (hr0 : Kd.C k24 w0 A x.f2.length x.f2) (hBn : w0.heap.size ≤ Bs) (W : World) (hJ : ∀ s A B row, J s A → A.grownBy B row → (∀ r, row = some r → r = Bs) → J s B)
    (hY : ∀ pre z W1, J pre W1 → pre.length < (stepsL x).length → YieldAt F (n - 1) Try.prog lk (encT z) W1 fun e W' => e = .returned (.bool true) ∧ J (pre ++ [z]) W' ∧ KpB w0.heap.size Bs W1 W')
    (hB : Below w0.heap.size w0 W) (hBs : W.heap[Bs]? = some (.cells #[.int .i64 x.f0, .int .i64 x.f1, .slice A x.f2.length c] 24 (0, 0))) (h0 : J [] W) :
    CallsIn F n Try.prog 39 #[.func (.yield lk) #[] #[], .pointer (some ⟨Bs, 0, none⟩)] W fun e W' => (∃ v, e = .returned v) ∧ ∃ ys : List (Int × Int × Option Addr × Nat × Nat), ys.map (fun z => z.2.1) = (stepsL x).map (fun z => z.f1) ∧ J ys W' := by
  have HJ := Aside0.mk hJ
  have HY := Aside0.mk hY
  clear hJ hY
  refine callsIn_of_wp Try.func39 rfl h39 ?_ hro
  simp only [Try.ntmps39, List.size_toArray, List.length_cons, List.length_nil, Nat.reduceAdd, Nat.reduceSub, Array.replicate_succ, Array.replicate_zero, List.push_toArray, List.append_toArray, List.nil_append, List.cons_append]
  gi_wp2
  gi_loopw [] (fun wr => ∃ n, StepR w0 Bs x J n wr) (fun wr => leastOf (fun n => StepR w0 Bs x J n wr))
  case atStart => exact ⟨tsize x, [], x, A, c, Nat.le_refl _, rfl, h0, hB, hBs, hr0⟩
  case round =>
    obtain ⟨hR, hmin⟩ := leastOf_spec hrel
    clear hrel
    have HMIN := Aside0.mk hmin
    clear hmin
    generalize leastOf (fun n => StepR w0 Bs x J n wr) = nn at hR HMIN ⊢
    obtain ⟨pre, y, A1, c1, hsz, heq, hJs, hBw, hBs1, hC⟩ := hR
    obtain ⟨⟨q0, q1, q2⟩, f0, f1, f2⟩ := cells3 hBs1
    have hlen : pre.length + (stepsL y).length = (stepsL x).length := by have z := congrArg List.length heq; simpa using z
    have HE := Aside0.mk heq
    have HBS := Aside0.mk hBs1
    have HZ := Aside0.mk hsz
    clear heq hBs1 hsz
    by_cases hf : y.f0 = 2 ∧ y.f2.length = 2
    · obtain ⟨mm, a, b, rfl⟩ := fork_of hf
      clear hf
      obtain ⟨ad, A2, c2, e0, x0, x1, x2, hl2, hC2⟩ := at_T24 hC 0 (by omega) (by show (0 : Int) < (2 : Nat); omega)
      obtain ⟨ad', A3, c3, e1, y0, y1, y2, hl3, hC3⟩ := at_T24 hC 1 (by omega) (by show (1 : Int) < (2 : Nat); omega)
      subst e0
      obtain rfl := Option.some.inj e1
      replace x0 : w0.cell? (ad.add 0) = some (.int .i64 a.f0) := x0
      replace x1 : w0.cell? ⟨(ad.add 0).block, (ad.add 0).off + 1, none⟩ = some (.int .i64 a.f1) := x1
      replace x2 : w0.cell? ⟨(ad.add 0).block, (ad.add 0).off + 2, none⟩ = some (.slice A2 a.f2.length c2) := x2
      replace y0 : w0.cell? (ad.add 3) = some (.int .i64 b.f0) := y0
      replace y1 : w0.cell? ⟨(ad.add 3).block, (ad.add 3).off + 1, none⟩ = some (.int .i64 b.f1) := y1
      replace y2 : w0.cell? ⟨(ad.add 3).block, (ad.add 3).off + 2, none⟩ = some (.slice A3 b.f2.length c3) := y2
      replace hC3 : Kd.C k24 w0 A3 b.f2.length b.f2 := hC3
      rw [Addr.add_zero'] at x0 x1 x2
      rw [show ad.add 3 = ⟨ad.block, ad.off + 3, none⟩ by simp [Addr.add]] at y0 y1 y2
      have u0 := (hBw.cell (World.block_lt_of_cell? w0 _ x0)).trans x0
      have u1 := (hBw.cell (World.block_lt_of_cell? w0 _ x1)).trans x1
      have u2 := (hBw.cell (World.block_lt_of_cell? w0 _ x2)).trans x2
      have hst := stepsL_fork mm a b
      rw [hst] at hlen HE
      have hpl : pre.length < (stepsL x).length := by rw [← hlen, List.length_cons]; omega
      obtain ⟨fn, tmps, assign, body, hy, hR⟩ := HY.out pre (a.f0, a.f1, A2, a.f2.length, c2) wr hJs hpl
      dsimp only [encT] at hy
      have Y0 := Aside0.mk y0
      have Y1 := Aside0.mk y1
      have Y2 := Aside0.mk y2
      have HC3 := Aside0.mk hC3
      have HBW := Aside0.mk hBw
      clear hst hlen hpl y0 y1 y2 hC3 hC2 hl2 hl3 e1 hC hBw hB hBs x0 x1 x2
      gi_wp2
      refine hR.mono ?_
      rintro e W3 ⟨rfl, hJ3, hk3⟩
      have hb3 := HBW.out.trans hk3.1
      have hs3 := hk3.2.trans HBS.out
      obtain ⟨⟨p0, p1, p2⟩, g0, g1, g2⟩ := cells3 hs3
      have v0 := (hb3.cell (World.block_lt_of_cell? w0 _ Y0.out)).trans Y0.out
      have v1 := (hb3.cell (World.block_lt_of_cell? w0 _ Y1.out)).trans Y1.out
      have v2 := (hb3.cell (World.block_lt_of_cell? w0 _ Y2.out)).trans Y2.out
      have HS3 := Aside0.mk hs3
      have HB3 := Aside0.mk hb3
      have HJ3 := Aside0.mk hJ3
      clear hs3 hb3 hJ3 hk3
      gi_wp2
      have hstep : StepR w0 Bs x J (tsize b) (((W3.setCell ⟨Bs, 0, none⟩ (.int .i64 b.f0)).setCell ⟨Bs, 1, none⟩ (.int .i64 b.f1)).setCell ⟨Bs, 2, none⟩ (.slice A3 b.f2.length c3)) := by
        refine ⟨pre ++ [(a.f0, a.f1, A2, a.f2.length, c2)], b, A3, c3, Nat.le_refl _, ?_, ?_, ?_, blk_put (blk_put (blk_put HS3.out 0 _ rfl) 1 _ rfl) 2 _ rfl, HC3.out⟩
        · have z := HE.out
          simp only [List.map_append, List.map_cons, List.map_nil, List.append_assoc, List.cons_append, List.nil_append] at z ⊢
          exact z
        · exact HJ.out _ _ _ (some Bs) HJ3.out (Lib.grownBy_setB (Lib.grownBy_setB (Lib.grownBy_setCell W3 Bs 0 _) 1 _) 2 _) (fun r e => by cases e; rfl)
        · exact ((HB3.out.setCell (p := ⟨Bs, 0, none⟩) hBn _).setCell (p := ⟨Bs, 1, none⟩) hBn _).setCell (p := ⟨Bs, 2, none⟩) hBn _
      refine ⟨⟨_, hstep⟩, Nat.lt_of_le_of_lt ((leastOf_spec ⟨_, hstep⟩).2 _ hstep) ?_⟩
      have z := HZ.out
      simp only [tsize, lsize] at z
      omega
    · have hl := stepsL_leaf y hf
      rw [hl] at hlen HE
      have hpl : pre.length < (stepsL x).length := by rw [← hlen]; simp
      obtain ⟨fn, tmps, assign, body, hy, hR⟩ := HY.out pre (y.f0, y.f1, A1, y.f2.length, c1) wr hJs hpl
      dsimp only [encT] at hy
      clear hl hlen hpl hC hB hBs hBw
      by_cases hk : y.f0 = 2
      · have hk2 : ¬ y.f2.length = 2 := fun h => hf ⟨hk, h⟩
        have e1 : ((y.f2.length : Int) == 2) = false := by simp; omega
        have e2 : (y.f0 == 2) = true := by simp [hk]
        have HK := Aside0.mk hk
        clear hf hk
        gi_wp2
        refine hR.mono ?_
        rintro e W3 ⟨rfl, hJ3, hk3⟩
        gi_wp2
        go_end0
        refine ⟨⟨_, rfl⟩, _, ?_, hJ3⟩
        have z := HE.out
        simp only [List.map_append, List.map_cons, List.map_nil] at z ⊢
        exact z
      · have e2 : (y.f0 == 2) = false := by simp; exact hk
        clear hf hk
        gi_wp2
        refine hR.mono ?_
        rintro e W3 ⟨rfl, hJ3, hk3⟩
        gi_wp2
        go_end0
        refine ⟨⟨_, rfl⟩, _, ?_, hJ3⟩
        have z := HE.out
        simp only [List.map_append, List.map_cons, List.map_nil] at z ⊢
        exact z
theorem steps_box (F : Fence) (n : Nat) (h39 : F.fn 39) (hro : F.round = none) (hn : 1 ≤ n) (Bs : Nat) (w0 : World) (A : Option Addr) (c : Nat) (x : S24) (hr0 : Kd.C k24 w0 A x.f2.length x.f2) (hBn : w0.heap.size ≤ Bs) (w : World)
    (hB : Below w0.heap.size w0 w) (hBs : w.heap[Bs]? = some (.cells #[.int .i64 x.f0, .int .i64 x.f1, .slice A x.f2.length c] 24 (0, 0))) :
    SeqBox F n Try.prog 39 #[.pointer (some ⟨Bs, 0, none⟩)] encT (KpB w0.heap.size Bs) (fun ys => ys.map (fun z => z.2.1) = (stepsL x).map (fun z => z.f1)) (stepsL x).length Bs w := fun lk J W hW hJ hY h0 =>
  steps1_in F n h39 hro hn lk Bs w0 A c x J hr0 hBn W hJ hY (hB.trans (hW.mono hB.size)) ((hW.block Bs (blk_lt hBs)).trans hBs) h0
end Go.Proofs.Ytmmmmedcgmcoaaa.P
