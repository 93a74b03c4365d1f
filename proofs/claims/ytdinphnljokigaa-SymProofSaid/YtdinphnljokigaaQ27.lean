/- What LawSymProof rests on, part 27: several texts put together. -/
import Derived.Test.YtdinphnljokigaaQ26
import Derived.Test.YtdinphnljokigaaQ2
set_option linter.unusedVariables false
set_option linter.unnecessarySimpa false
set_option linter.unusedSimpArgs false
set_option maxRecDepth 100000
section
namespace Go.Proofs.Ytdinphnljokigaa.P
open Go.RowKit Go.Lib Go.Proofs.YtdinphnljokigaaW.PrintWords Go.Proofs.YtdinphnljokigaaW.PrintLast Go.Proofs.YtdinphnljokigaaW.PrintMore
section
variable {P : Program} {ops : Array Oper} {Q : Exit → Act → World → Prop} {md : Region.Mode} {S : World → Prop} {ds : List Nat}
/-- Two of ds may come up: nothing is shown behind them. -/
theorem two_last_ {i j : Nat} {Ni Nj : Option Tmp} {oi oj : Oper} {fuel : Nat} {l : Array Bool} {a : Act} {w : World} (li lj : Array Bool) (hi : ops[i]? = some oi) (hj : ops[j]? = some oj) (hNi : oi.dst = Ni) (hNj : oj.dst = Nj)
  (hc : (Region.ready md ops l == [i, j] && l.setIfInBounds i true == li && l.setIfInBounds j true == lj) = true) (hdi : i ∈ ds) (hdj : j ∈ ds)
  (h1 : ∀ K : Act → World → Prop, Shut (∀ a' w', wpAnyLast P md ops Q S ds fuel li a' w' → K a' w') → if Region.wanted oi (yielded ops a.tmps) = true then Oper.wp P oi a w K Q else K (a.put Ni undef) w)
  (h2 : ∀ K : Act → World → Prop, Shut (∀ a' w', wpAnyLast P md ops Q S ds fuel lj a' w' → K a' w') → if Region.wanted oj (yielded ops a.tmps) = true then Oper.wp P oj a w K Q else K (a.put Nj undef) w) :
  wpAnyLast P md ops Q S ds (fuel + 1) l a w := by
 subst hNi
 subst hNj
 simp only [Bool.and_eq_true, beq_iff_eq] at hc
 obtain ⟨⟨h3, h4⟩, h5⟩ := hc
 subst h4
 subst h5
 exact wpAnyLast_ready h3 (by simp) (AllReadyL.cons_last hi hdi (fun K hK => h1 K hK) (AllReadyL.cons_last hj hdj (fun K hK => h2 K hK) AllReadyL.nil))
end
theorem mbox_slices {w : World} {base g : Nat} {rb : Nat → Prop} {M : Mdl} {vU vT vK vD : Value} (h : MBox w base g rb M vU vT vK vD) : (∃ A c, vU = .slice A M.U.length c) ∧ (∃ A c, vT = .slice A M.T.length c) ∧ (∃ A c, vK = .slice A M.K.length c) ∧ (∃ A c, vD = .slice A M.D.length c) := by
 obtain ⟨⟨A, c, e, _⟩, ⟨A1, c1, e1, _⟩, ⟨A2, c2, e2, _⟩, ⟨A3, c3, e3, _⟩⟩ := mbox_told h
 exact ⟨⟨A, c, e⟩, ⟨A1, c1, e1⟩, ⟨A2, c2, e2⟩, ⟨A3, c3, e3⟩⟩
theorem told_C' {α : Type} {d : Kd α} {w : World} {A : Option Addr} {n c : Nat} {l : List α} (h : Told d w (.slice A n c) l) : n = l.length ∧ n ≤ c ∧ d.C w A l.length l := by
 obtain ⟨A', c', e, hc, hC⟩ := h
 injection e with e1 e2 e3
 subst e1 e3
 exact ⟨e2, by omega, hC⟩
theorem mbox_U {w : World} {base g : Nat} {rb : Nat → Prop} {M : Mdl} {AU : Option Addr} {cU : Nat} {vT vK vD : Value} (h : MBox w base g rb M (.slice AU M.U.length cU) vT vK vD) : kU.C w AU M.U.length M.U := (told_C' (mbox_told h).1).2.2
theorem mbox_T {w : World} {base g : Nat} {rb : Nat → Prop} {M : Mdl} {AT : Option Addr} {cT : Nat} {vU vK vD : Value} (h : MBox w base g rb M vU (.slice AT M.T.length cT) vK vD) : kS.C w AT M.T.length M.T ∧ M.T.length ≤ cT := ⟨(told_C' (mbox_told h).2.1).2.2, (told_C' (mbox_told h).2.1).2.1⟩
theorem mbox_own {w : World} {base g : Nat} {rb : Nat → Prop} {M : Mdl} {vU vT vK vD : Value} (h : MBox w base g rb M vU vT vK vD) : ∀ k, vK.ownBlock = some k → ¬ w.heap.size ≤ k := by
 obtain ⟨_, _, PU, PT, PK, PD, _, _, h3, _⟩ := h
 intro k hk
 have := Kd.N_lt h3 k hk
 omega
/-- What an honest client sends makes of a model, and its answer. -/
def emitM (M : Mdl) (a : Ac) : Mdl × Int := if findU M.U a.X.user = -1 then (M, 5) else if isP a.X a.F = false then (M, 3) else if M.K.length = 40 then (M, 12) else ({ M with K := M.K ++ [proofT a.X a.F] }, 0)
/-- Three cells of one block, and one of another, in either order. -/
theorem set31 {w : World} {g g' o0 o1 o2 j : Nat} {a b c v : Value} {t : TypeId} {cs : Array Value} (hne : g ≠ g') (hb : w.heap[g']? = some (.cells cs t (0, 0))) : ∀ k, k ≠ g → ((((w.setCell ⟨g, j, none⟩ v).setCell ⟨g', o0, none⟩ a).setCell ⟨g', o1, none⟩ b).setCell ⟨g', o2, none⟩ c).heap[k]? = (((w.setCell ⟨g', o0, none⟩ a).setCell ⟨g', o1, none⟩ b).setCell ⟨g', o2, none⟩ c).heap[k]? := by
 intro k hk
 by_cases hk' : k = g'
 ·subst hk'
  have h1 : (w.setCell ⟨g, j, none⟩ v).heap[k]? = some (.cells cs t (0, 0)) := blk_far hb (fun e => hk e) v
  exact (blk_set (blk_set (blk_set h1 o0 a) o1 b) o2 c).trans (blk_set (blk_set (blk_set hb o0 a) o1 b) o2 c).symm
 ·rw [Below.heap_setCell _ _ _ _ hk', Below.heap_setCell _ _ _ _ hk', Below.heap_setCell _ _ _ _ hk', Below.heap_setCell _ _ _ _ hk, Below.heap_setCell _ _ _ _ hk', Below.heap_setCell _ _ _ _ hk', Below.heap_setCell _ _ _ _ hk']
theorem app_off {w : World} {base g g' : Nat} {rb : Nat → Prop} {M : Mdl} {vU vT vK vD : Value} (h : MBox w base g rb M vU vT vK vD) (hat : some g' = vK.ownBlock ∨ w.heap.size ≤ g') : g' ≠ g := by
 intro e
 subst e
 obtain ⟨h0, _, PU, PT, PK, PD, _, _, h3, _, _, _, _, _, n3, _⟩ := h
 rcases hat with h | h
 ·exact n3 (h3.1 _ h.symm)
 ·have := blk_lt h0
  omega
/-- The row of what is known with one more, in the box. -/
theorem emit_fin {W w5 Wf : World} {base g g' cap' : Nat} {rb : Nat → Prop} {M : Mdl} {vU vT vK vD vp : Value} {p : S24} {ok okp : Nat → Prop} (MB : MBox W base g rb M vU vT vK vD) (hg : W.grownBy w5 vK.ownBlock) (hat : some g' = vK.ownBlock ∨ W.heap.size ≤ g')
  (hN : Kd.N k24 32 w5 base ok (.slice (some ⟨g', 0, none⟩) (M.K.length + 1) cap') (M.K ++ [z24])) (hok : ∀ k, ok k → k ≠ g ∧ ¬ rb k) (hF : Kd.FK k24 w5 okp p [.int .i64 p.f0, .int .i64 p.f1, vp]) (hokp : ∀ k, okp k → ok k ∧ k ≠ g')
  (hf : ∀ k, k ≠ g → Wf.heap[k]? = (((w5.setCell ⟨g', M.K.length * 3, none⟩ (.int .i64 p.f0)).setCell ⟨g', M.K.length * 3 + 1, none⟩ (.int .i64 p.f1)).setCell ⟨g', M.K.length * 3 + 2, none⟩ vp).heap[k]?)
  (hx : Wf.heap[g]? = some (.cells (mca M vU vT (.slice (some ⟨g', 0, none⟩) (M.K.length + 1) cap') vD) 48 (0, 0))) :
  Wf.heap[g]? = some (.cells (mca { M with K := M.K ++ [p] } vU vT (.slice (some ⟨g', 0, none⟩) (M.K.length + 1) cap') vD) 48 (0, 0)) ∧ MdO Wf rb { M with K := M.K ++ [p] } vU vT (.slice (some ⟨g', 0, none⟩) (M.K.length + 1) cap') vD := by
 refine ⟨hx, ?_⟩
 have hgg := app_off MB hat
 obtain ⟨h0, hbg, PU, PT, PK, PD, h1, h2, h3, h4, h5, h6, n1, n2, n3, n4, nr⟩ := MB
 have far : ∀ k, k ≠ g → k ≠ g' → Wf.heap[k]? = w5.heap[k]? := fun k hk hk' => by
  rw [hf k hk, Below.heap_setCell _ _ _ _ hk', Below.heap_setCell _ _ _ _ hk', Below.heap_setCell _ _ _ _ hk']
 have step : ∀ Q : Nat → Prop, ¬ Q g → (∀ k, vK.ownBlock = some k → ¬ Q k) → ∀ k, (Q k ∧ k < W.heap.size) → k < W.heap.size → Wf.heap[k]? = W.heap[k]? := by
  intro Q hq hown k hk hlt
  have e1 : k ≠ g := fun e => hq (e ▸ hk.1)
  have e2 : k ≠ g' := fun e => by
   subst e
   rcases hat with h | h
   ·exact hown k h.symm hk.1
   ·omega
  rw [far k e1 e2]
  exact hg.block k hlt fun e => hown k e.symm hk.1
 refine ⟨Kd.V_mono (Kd.V_step (Kd.V_bound h1) (step PU n1 fun k hk => (h5 k hk).1)) fun k hk e => (nr k e).2.1 hk.1, Kd.V_mono (Kd.V_step (Kd.V_bound h2) (step PT n2 fun k hk => (h5 k hk).2.1)) fun k hk e => (nr k e).2.2.1 hk.1, ?_, ?_⟩
 ·obtain ⟨ce, hcl, hM, hcc, hfr⟩ := Kd.N_elem hN z24 (M.K.length : Int) (by omega) (by omega)
  have hseg := (Kd.N_seg (okp := okp) hN (M.K.length : Int) (by omega) (by omega) (seg := [.int .i64 p.f0, .int .i64 p.f1, vp]) (j := 0) (c := ce) hcl hcc (Nat.le_refl 3) (x' := p) (by
   have h3 : ce.length = 3 := hcl
   have e : ce.take 0 ++ [.int .i64 p.f0, .int .i64 p.f1, vp] ++ ce.drop (0 + 3) = [.int .i64 p.f0, .int .i64 p.f1, vp] := by
    rw [List.take_zero, List.nil_append, List.drop_of_length_le (by omega), List.append_nil]
   show Kd.FK k24 w5 okp p (ce.take 0 ++ [.int .i64 p.f0, .int .i64 p.f1, vp] ++ ce.drop (0 + 3))
   rw [e]
   exact hF) hokp).1
  rw [show (M.K ++ [z24]).set ((M.K.length : Int).toNat) p = M.K ++ [p] by simp] at hseg
  have hz : ((M.K.length : Int).toNat * k24.sz + 0) = M.K.length * 3 := by
   rw [Int.toNat_natCast]
   rfl
  rw [hz] at hseg
  have hN2 := Kd.N_V (base' := 0) (Kd.N_step hseg (w1 := Wf) fun k hk _ => hf k (hok k hk).1)
  exact Kd.V_mono hN2 fun k hk => (hok k hk).2
 ·have hRD := (Kd.R_step (Kd.R_mono (Kd.R_bound h4) (ok' := fun k => PD k ∧ k < W.heap.size) fun k hk => ⟨hk.1, hk.2.2.1⟩) (step PD n4 fun k hk => (h5 k hk).2.2))
  exact Kd.V_mono (Kd.R_V (base' := 0) hRD) fun k hk e => (nr k e).2.2.2.2 hk.1
end Go.Proofs.Ytdinphnljokigaa.P
end
