/- What LawSymOnce rests on, part 24: several texts put together. -/
import Derived.Test.YtdinphnljokigaaGreatQ23
import Derived.Test.YtdinphnljokigaaGreatQ2
set_option linter.unusedVariables false
set_option linter.unnecessarySimpa false
set_option linter.unusedSimpArgs false
set_option maxRecDepth 100000
section
namespace Go.Proofs.YtdinphnljokigaaGreat.P
open Go.RowKit Go.Lib Go.Proofs.YtdinphnljokigaaGreatW.PrintWords Go.Proofs.YtdinphnljokigaaGreatW.PrintLast Go.Proofs.YtdinphnljokigaaGreatW.PrintMore
section
variable {P : Program} {ops : Array Oper} {Q : Exit → Act → World → Prop} {md : Region.Mode} {S : World → Prop} {ds : List Nat}
theorem two_last_ {i j : Nat} {Ni Nj : Option Tmp} {oi oj : Oper} {fuel : Nat} {l : Array Bool} {a : Act} {w : World} (li lj : Array Bool) (hi : ops[i]? = some oi) (hj : ops[j]? = some oj) (hNi : oi.dst = Ni) (hNj : oj.dst = Nj)
  (hc : (Region.ready md ops l == [i, j] && l.setIfInBounds i true == li && l.setIfInBounds j true == lj) = true) (hdi : i ∈ ds) (hdj : j ∈ ds)
  (h1 : ∀ K : Act → World → Prop, Shut (∀ a' w', wpAnyLast P md ops Q S ds fuel li a' w' → K a' w') → if Region.wanted oi (yielded ops a.tmps) = true then Oper.wp P oi a w K Q else K (a.put Ni undef) w)
  (h2 : ∀ K : Act → World → Prop, Shut (∀ a' w', wpAnyLast P md ops Q S ds fuel lj a' w' → K a' w') → if Region.wanted oj (yielded ops a.tmps) = true then Oper.wp P oj a w K Q else K (a.put Nj undef) w) :
  wpAnyLast P md ops Q S ds (fuel + 1) l a w := by
 subst hNi
 subst hNj
 simp only [Bool.and_eq_true, beq_iff_eq] at hc
 obtain ⟨⟨h3, h4⟩, h5⟩ := hc
 subst h4
 subst h5
 exact wpAnyLast_ready h3 (by simp) (AllReadyL.cons_last hi hdi (fun K hK => h1 K hK) (AllReadyL.cons_last hj hdj (fun K hK => h2 K hK) AllReadyL.nil))
end
theorem mbox_slices {w : World} {base g : Nat} {rb : Nat → Prop} {M : Mdl} {vU vT vK vD : Value} (h : MBox w base g rb M vU vT vK vD) : (∃ A c, vU = .slice A M.U.length c) ∧ (∃ A c, vT = .slice A M.T.length c) ∧ (∃ A c, vK = .slice A M.K.length c) ∧ (∃ A c, vD = .slice A M.D.length c) := by
 obtain ⟨⟨A, c, e, _⟩, ⟨A1, c1, e1, _⟩, ⟨A2, c2, e2, _⟩, ⟨A3, c3, e3, _⟩⟩ := mbox_told h
 exact ⟨⟨A, c, e⟩, ⟨A1, c1, e1⟩, ⟨A2, c2, e2⟩, ⟨A3, c3, e3⟩⟩
theorem told_C' {α : Type} {d : Kd α} {w : World} {A : Option Addr} {n c : Nat} {l : List α} (h : Told d w (.slice A n c) l) : n = l.length ∧ n ≤ c ∧ d.C w A l.length l := by
 obtain ⟨A', c', e, hc, hC⟩ := h
 injection e with e1 e2 e3
 subst e1 e3
 exact ⟨e2, by omega, hC⟩
theorem mbox_U {w : World} {base g : Nat} {rb : Nat → Prop} {M : Mdl} {AU : Option Addr} {cU : Nat} {vT vK vD : Value} (h : MBox w base g rb M (.slice AU M.U.length cU) vT vK vD) : kU.C w AU M.U.length M.U := (told_C' (mbox_told h).1).2.2
theorem mbox_T {w : World} {base g : Nat} {rb : Nat → Prop} {M : Mdl} {AT : Option Addr} {cT : Nat} {vU vK vD : Value} (h : MBox w base g rb M vU (.slice AT M.T.length cT) vK vD) : kS.C w AT M.T.length M.T ∧ M.T.length ≤ cT := ⟨(told_C' (mbox_told h).2.1).2.2, (told_C' (mbox_told h).2.1).2.1⟩
theorem mbox_own {w : World} {base g : Nat} {rb : Nat → Prop} {M : Mdl} {vU vT vK vD : Value} (h : MBox w base g rb M vU vT vK vD) : ∀ k, vK.ownBlock = some k → ¬ w.heap.size ≤ k := by
 obtain ⟨_, _, PU, PT, PK, PD, _, _, h3, _⟩ := h
 intro k hk
 have := Kd.N_lt h3 k hk
 omega
def emitM (M : Mdl) (a : Ac) : Mdl × Int := if findU M.U a.X.user = -1 then (M, 5) else if isP a.X a.F = false then (M, 3) else if M.K.length = 40 then (M, 12) else ({ M with K := M.K ++ [proofT a.X a.F] }, 0)
theorem set31 {w : World} {g g' o0 o1 o2 j : Nat} {a b c v : Value} {t : TypeId} {cs : Array Value} (hne : g ≠ g') (hb : w.heap[g']? = some (.cells cs t (0, 0))) : ∀ k, k ≠ g → ((((w.setCell ⟨g, j, none⟩ v).setCell ⟨g', o0, none⟩ a).setCell ⟨g', o1, none⟩ b).setCell ⟨g', o2, none⟩ c).heap[k]? = (((w.setCell ⟨g', o0, none⟩ a).setCell ⟨g', o1, none⟩ b).setCell ⟨g', o2, none⟩ c).heap[k]? := by
 intro k hk
 by_cases hk' : k = g'
 ·subst hk'
  have h1 : (w.setCell ⟨g, j, none⟩ v).heap[k]? = some (.cells cs t (0, 0)) := blk_far hb (fun e => hk e) v
  exact (blk_set (blk_set (blk_set h1 o0 a) o1 b) o2 c).trans (blk_set (blk_set (blk_set hb o0 a) o1 b) o2 c).symm
 ·rw [Below.heap_setCell _ _ _ _ hk', Below.heap_setCell _ _ _ _ hk', Below.heap_setCell _ _ _ _ hk', Below.heap_setCell _ _ _ _ hk, Below.heap_setCell _ _ _ _ hk', Below.heap_setCell _ _ _ _ hk', Below.heap_setCell _ _ _ _ hk']
theorem app_off {w : World} {base g g' : Nat} {rb : Nat → Prop} {M : Mdl} {vU vT vK vD : Value} (h : MBox w base g rb M vU vT vK vD) (hat : some g' = vK.ownBlock ∨ w.heap.size ≤ g') : g' ≠ g := by
 intro e
 subst e
 obtain ⟨h0, _, PU, PT, PK, PD, _, _, h3, _, _, _, _, _, n3, _⟩ := h
 rcases hat with h | h
 ·exact n3 (h3.1 _ h.symm)
 ·have := blk_lt h0
  omega
theorem emit_fin {W w5 Wf : World} {base g g' cap' : Nat} {rb : Nat → Prop} {M : Mdl} {vU vT vK vD vp : Value} {p : S24} {ok okp : Nat → Prop} (MB : MBox W base g rb M vU vT vK vD) (hg : W.grownBy w5 vK.ownBlock) (hat : some g' = vK.ownBlock ∨ W.heap.size ≤ g')
  (hN : Kd.N k24 36 w5 base ok (.slice (some ⟨g', 0, none⟩) (M.K.length + 1) cap') (M.K ++ [z24])) (hok : ∀ k, ok k → k ≠ g ∧ ¬ rb k) (hF : Kd.FK k24 w5 okp p [.int .i64 p.f0, .int .i64 p.f1, vp]) (hokp : ∀ k, okp k → ok k ∧ k ≠ g')
  (hf : ∀ k, k ≠ g → Wf.heap[k]? = (((w5.setCell ⟨g', M.K.length * 3, none⟩ (.int .i64 p.f0)).setCell ⟨g', M.K.length * 3 + 1, none⟩ (.int .i64 p.f1)).setCell ⟨g', M.K.length * 3 + 2, none⟩ vp).heap[k]?)
  (hx : Wf.heap[g]? = some (.cells (mca M vU vT (.slice (some ⟨g', 0, none⟩) (M.K.length + 1) cap') vD) 42 (0, 0))) :
  Wf.heap[g]? = some (.cells (mca { M with K := M.K ++ [p] } vU vT (.slice (some ⟨g', 0, none⟩) (M.K.length + 1) cap') vD) 42 (0, 0)) ∧ MdO Wf rb { M with K := M.K ++ [p] } vU vT (.slice (some ⟨g', 0, none⟩) (M.K.length + 1) cap') vD := by
 refine ⟨hx, ?_⟩
 have hgg := app_off MB hat
 obtain ⟨h0, hbg, PU, PT, PK, PD, h1, h2, h3, h4, h5, h6, n1, n2, n3, n4, nr⟩ := MB
 have far : ∀ k, k ≠ g → k ≠ g' → Wf.heap[k]? = w5.heap[k]? := fun k hk hk' => by
  rw [hf k hk, Below.heap_setCell _ _ _ _ hk', Below.heap_setCell _ _ _ _ hk', Below.heap_setCell _ _ _ _ hk']
 have step : ∀ Q : Nat → Prop, ¬ Q g → (∀ k, vK.ownBlock = some k → ¬ Q k) → ∀ k, (Q k ∧ k < W.heap.size) → k < W.heap.size → Wf.heap[k]? = W.heap[k]? := by
  intro Q hq hown k hk hlt
  have e1 : k ≠ g := fun e => hq (e ▸ hk.1)
  have e2 : k ≠ g' := fun e => by
   subst e
   rcases hat with h | h
   ·exact hown k h.symm hk.1
   ·omega
  rw [far k e1 e2]
  exact hg.block k hlt fun e => hown k e.symm hk.1
 refine ⟨Kd.V_mono (Kd.V_step (Kd.V_bound h1) (step PU n1 fun k hk => (h5 k hk).1)) fun k hk e => (nr k e).2.1 hk.1, Kd.V_mono (Kd.V_step (Kd.V_bound h2) (step PT n2 fun k hk => (h5 k hk).2.1)) fun k hk e => (nr k e).2.2.1 hk.1, ?_, ?_⟩
 ·obtain ⟨ce, hcl, hM, hcc, hfr⟩ := Kd.N_elem hN z24 (M.K.length : Int) (by omega) (by omega)
  have hseg := (Kd.N_seg (okp := okp) hN (M.K.length : Int) (by omega) (by omega) (seg := [.int .i64 p.f0, .int .i64 p.f1, vp]) (j := 0) (c := ce) hcl hcc (Nat.le_refl 3) (x' := p) (by
   have h3 : ce.length = 3 := hcl
   have e : ce.take 0 ++ [.int .i64 p.f0, .int .i64 p.f1, vp] ++ ce.drop (0 + 3) = [.int .i64 p.f0, .int .i64 p.f1, vp] := by
    rw [List.take_zero, List.nil_append, List.drop_of_length_le (by omega), List.append_nil]
   show Kd.FK k24 w5 okp p (ce.take 0 ++ [.int .i64 p.f0, .int .i64 p.f1, vp] ++ ce.drop (0 + 3))
   rw [e]
   exact hF) hokp).1
  rw [show (M.K ++ [z24]).set ((M.K.length : Int).toNat) p = M.K ++ [p] by simp] at hseg
  have hz : ((M.K.length : Int).toNat * k24.sz + 0) = M.K.length * 3 := by
   rw [Int.toNat_natCast]
   rfl
  rw [hz] at hseg
  have hN2 := Kd.N_V (base' := 0) (Kd.N_step hseg (w1 := Wf) fun k hk _ => hf k (hok k hk).1)
  exact Kd.V_mono hN2 fun k hk => (hok k hk).2
 ·have hRD := (Kd.R_step (Kd.R_mono (Kd.R_bound h4) (ok' := fun k => PD k ∧ k < W.heap.size) fun k hk => ⟨hk.1, hk.2.2.1⟩) (step PD n4 fun k hk => (h5 k hk).2.2))
  exact Kd.V_mono (Kd.R_V (base' := 0) hRD) fun k hk e => (nr k e).2.2.2.2 hk.1
set_option maxHeartbeats 4000000 in
theorem emit_0 (M : Mdl) (a : Ac) (vU vT vK vD vA : Value) (w0 w : World) (base g : Nat) (rb : Nat → Prop) (hm : MBox w base g rb M vU vT vK vD) (hB : Below base w0 w) (hb : base ≤ w.heap.size) (hd : wfS a.X) (hw : wfF a.F) (hK : M.K.length < 1000000) (t0 : findU M.U a.X.user = -1) :
  Calls Tryz.prog 28 #[.pointer (some ⟨g, 0, none⟩), .agg (aca a vA)] w fun e w' => ∃ vK', e = .returned (.int .i64 (emitM M a).2) ∧ w'.heap[g]? = some (.cells (mca (emitM M a).1 vU vT vK' vD) 42 (0, 0)) ∧ MdO w' rb (emitM M a).1 vU vT vK' vD ∧ Below base w0 w' := by
 have HE := aq_ (show emitM M a = (M, 5) by unfold emitM; rw [if_pos t0])
 have hq : (findU M.U a.X.user == -1) = true := by simpa using t0
 clear t0
 obtain ⟨⟨AU, cU, rfl⟩, ⟨AT, cT, rfl⟩, ⟨AK, cK, rfl⟩, ⟨AD, cD, rfl⟩⟩ := mbox_slices hm
 have MB := aq_ hm
 have HB := aq_ hB
 have LB := aq_ hb
 have HS := aq_ hd
 have HW := aq_ hw
 have KL := aq_ hK
 clear hm hB hb hd hw hK
 go_enter Tryz.func28, Tryz.ntmps28
 go_upto_region 1 with ((with_reducible refine box_Ac (.tmp 1) (x := a) (v := vA) rfl rfl rfl ?_); intro ga hg w1 hbox hb; have MB' := aq_ (mbox_below MB.out hb); have AB := aq_ hbox; have HB' := aq_ (HB.out.trans (hb.mono LB.out)); have LB' := aq_ (Nat.le_trans LB.out hb.size); clear hg hbox hb MB HB LB; have MB := MB'; have HB := HB'; have LB := LB'; clear MB' HB' LB')
 have MB' := aq_ (mbox_below MB.out (below_drew (Below.refl _ w1)))
 have AB' := aq_ (blk_drew AB.out)
 have HB' := aq_ (below_drew HB.out)
 have LB' := aq_ (show base ≤ w1.drew.heap.size from LB.out)
 clear MB AB HB LB
 have MB := MB'
 have AB := AB'
 have HB := HB'
 have LB := LB'
 clear MB' AB' HB' LB'
 refine start_ (n := 9) (S := fun w' => w'.cell? ⟨g, 0, none⟩ = some (.slice AU M.U.length cU) ∧ w'.cell? ⟨ga, 41, none⟩ = some (.int .i64 a.X.user)) (ds := []) #[false, false, false, false, false, false, false, false, false] (by kernel_rfl) rfl rfl ⟨blk_cell MB.out.1 0, (cellsA_X AB.out).1⟩ (fun hHeld => ?_)
 refine pu_ 0 (some 7) ?_ (bt_ 9 1) rfl rfl (Or.inl ⟨by rfl, ?_⟩) ?_ ?_ ?_;rotate_left;(intro w';go_simp;with_reducible rfl);rotate_left;(simp only [pt_];rfl)
 refine pu_ 1 (some 8) ?_ (bt_ 9 3) rfl rfl (Or.inl ⟨by rfl, ?_⟩) ?_ ?_ ?_;rotate_left;(intro w';go_simp;with_reducible rfl);rotate_left;(simp only [pt_];rfl)
 refine pu_ 2 (some 9) ?_ (bt_ 9 7) rfl rfl (Or.inl ⟨by rfl, ?_⟩) ?_ ?_ ?_;rotate_left;(intro w';go_simp;with_reducible rfl);rotate_left;(simp only [pt_];rfl)
 refine pu_ 4 (some 11) ?_ (bt_ 9 23) rfl rfl (Or.inl ⟨by rfl, ?_⟩) ?_ ?_ ?_;rotate_left;(intro w';go_simp;with_reducible rfl);rotate_left;(simp only [pt_];rfl)
 refine pu_ 5 (some 12) ?_ (bt_ 9 55) rfl rfl (Or.inl ⟨by rfl, ?_⟩) ?_ ?_ ?_;rotate_left;(intro w';go_simp;with_reducible rfl);rotate_left;(simp only [pt_];rfl)
 refine ta_ 3 (some 10) ?_ (bt_ 9 63) rfl rfl (Or.inl ⟨by rfl, ?_⟩) hHeld ?_ ?_ ?_;rotate_left;(rintro w' ⟨s0, s1⟩;go_simp;with_reducible rfl);rotate_left;(simp only [pt_];rfl)
 refine ta_ 6 (some 13) ?_ (bt_ 9 127) rfl rfl (Or.inl ⟨by rfl, ?_⟩) hHeld ?_ ?_ ?_;rotate_left;(rintro w' ⟨s0, s1⟩;go_simp;with_reducible rfl);rotate_left;(simp only [pt_];rfl)
 refine one_ (i := 7) (N := some 14) (bt_ 9 255) rfl rfl (by kernel_rfl) (by decide) (fun K hK => ?_)
 refine goes_ Tryz.func34 (by kernel_rfl) rfl #[.slice AU M.U.length cU, .int .i64 a.X.user] (by rfl) rfl rfl (by simp only [List.map_toArray, List.map_cons, List.map_nil]; rfl) ?_
 with_reducible refine (ufind_any M.U AU cU a.X.user _ (mbox_U MB.out)).mono ?_
 rintro e wq ⟨rfl, hb_⟩
 refine ⟨_, rfl, ?_⟩
 have MB' := aq_ (mbox_below MB.out hb_)
 have AB' := aq_ (blk_below AB.out hb_)
 have HB' := aq_ (HB.out.trans (hb_.mono LB.out))
 have LB' := aq_ (Nat.le_trans LB.out hb_.size)
 clear hb_ MB AB HB LB
 have MB := MB'
 have AB := AB'
 have HB := HB'
 have LB := LB'
 clear MB' AB' HB' LB'
 refine hK.out _ _ ⟨blk_cell MB.out.1 0, (cellsA_X AB.out).1⟩ (fun hHeld => ?_)
 clear hK K
 refine norm_ (a' := ?_) ?_ ?_
 rotate_left
 ·show Act.put _ (some 14) _ = _
  simp only [pt_]
  rfl
 refine pu_ 8 (some 15) ?_ (bt_ 9 511) rfl rfl (Or.inl ⟨by rfl, ?_⟩) ?_ ?_ ?_;rotate_left;(intro w';go_simp;with_reducible rfl);rotate_left;(simp only [pt_];rfl)
 refine done_ (by kernel_rfl) ?_
 go_wp2
 go_ret
 exact ⟨_, by rw [HE.out]; rfl, by rw [HE.out]; exact MB.out.1, by rw [HE.out]; exact mbox_mdo MB.out, HB.out⟩
set_option maxHeartbeats 4000000 in
theorem emit_1 (M : Mdl) (a : Ac) (vU vT vK vD vA : Value) (w0 w : World) (base g : Nat) (rb : Nat → Prop) (hm : MBox w base g rb M vU vT vK vD) (hB : Below base w0 w) (hb : base ≤ w.heap.size) (hd : wfS a.X) (hw : wfF a.F) (hK : M.K.length < 1000000) (t0 : ¬ findU M.U a.X.user = -1) (t1 : isP a.X a.F = false) :
  Calls Tryz.prog 28 #[.pointer (some ⟨g, 0, none⟩), .agg (aca a vA)] w fun e w' => ∃ vK', e = .returned (.int .i64 (emitM M a).2) ∧ w'.heap[g]? = some (.cells (mca (emitM M a).1 vU vT vK' vD) 42 (0, 0)) ∧ MdO w' rb (emitM M a).1 vU vT vK' vD ∧ Below base w0 w' := by
 have HE := aq_ (show emitM M a = (M, 3) by unfold emitM; rw [if_neg t0, if_pos t1])
 have hq : (findU M.U a.X.user == -1) = false := by simpa using t0
 have T1 := aq_ t1
 clear t0 t1
 obtain ⟨⟨AU, cU, rfl⟩, ⟨AT, cT, rfl⟩, ⟨AK, cK, rfl⟩, ⟨AD, cD, rfl⟩⟩ := mbox_slices hm
 have MB := aq_ hm
 have HB := aq_ hB
 have LB := aq_ hb
 have HS := aq_ hd
 have HW := aq_ hw
 have KL := aq_ hK
 clear hm hB hb hd hw hK
 go_enter Tryz.func28, Tryz.ntmps28
 go_upto_region 1 with ((with_reducible refine box_Ac (.tmp 1) (x := a) (v := vA) rfl rfl rfl ?_); intro ga hg w1 hbox hb; have MB' := aq_ (mbox_below MB.out hb); have AB := aq_ hbox; have HB' := aq_ (HB.out.trans (hb.mono LB.out)); have LB' := aq_ (Nat.le_trans LB.out hb.size); clear hg hbox hb MB HB LB; have MB := MB'; have HB := HB'; have LB := LB'; clear MB' HB' LB')
 have MB' := aq_ (mbox_below MB.out (below_drew (Below.refl _ w1)))
 have AB' := aq_ (blk_drew AB.out)
 have HB' := aq_ (below_drew HB.out)
 have LB' := aq_ (show base ≤ w1.drew.heap.size from LB.out)
 clear MB AB HB LB
 have MB := MB'
 have AB := AB'
 have HB := HB'
 have LB := LB'
 clear MB' AB' HB' LB'
 refine start_ (n := 9) (S := fun w' => w'.cell? ⟨g, 0, none⟩ = some (.slice AU M.U.length cU) ∧ w'.cell? ⟨ga, 41, none⟩ = some (.int .i64 a.X.user)) (ds := []) #[false, false, false, false, false, false, false, false, false] (by kernel_rfl) rfl rfl ⟨blk_cell MB.out.1 0, (cellsA_X AB.out).1⟩ (fun hHeld => ?_)
 refine pu_ 0 (some 7) ?_ (bt_ 9 1) rfl rfl (Or.inl ⟨by rfl, ?_⟩) ?_ ?_ ?_;rotate_left;(intro w';go_simp;with_reducible rfl);rotate_left;(simp only [pt_];rfl)
 refine pu_ 1 (some 8) ?_ (bt_ 9 3) rfl rfl (Or.inl ⟨by rfl, ?_⟩) ?_ ?_ ?_;rotate_left;(intro w';go_simp;with_reducible rfl);rotate_left;(simp only [pt_];rfl)
 refine pu_ 2 (some 9) ?_ (bt_ 9 7) rfl rfl (Or.inl ⟨by rfl, ?_⟩) ?_ ?_ ?_;rotate_left;(intro w';go_simp;with_reducible rfl);rotate_left;(simp only [pt_];rfl)
 refine pu_ 4 (some 11) ?_ (bt_ 9 23) rfl rfl (Or.inl ⟨by rfl, ?_⟩) ?_ ?_ ?_;rotate_left;(intro w';go_simp;with_reducible rfl);rotate_left;(simp only [pt_];rfl)
 refine pu_ 5 (some 12) ?_ (bt_ 9 55) rfl rfl (Or.inl ⟨by rfl, ?_⟩) ?_ ?_ ?_;rotate_left;(intro w';go_simp;with_reducible rfl);rotate_left;(simp only [pt_];rfl)
 refine ta_ 3 (some 10) ?_ (bt_ 9 63) rfl rfl (Or.inl ⟨by rfl, ?_⟩) hHeld ?_ ?_ ?_;rotate_left;(rintro w' ⟨s0, s1⟩;go_simp;with_reducible rfl);rotate_left;(simp only [pt_];rfl)
 refine ta_ 6 (some 13) ?_ (bt_ 9 127) rfl rfl (Or.inl ⟨by rfl, ?_⟩) hHeld ?_ ?_ ?_;rotate_left;(rintro w' ⟨s0, s1⟩;go_simp;with_reducible rfl);rotate_left;(simp only [pt_];rfl)
 refine one_ (i := 7) (N := some 14) (bt_ 9 255) rfl rfl (by kernel_rfl) (by decide) (fun K hK => ?_)
 refine goes_ Tryz.func34 (by kernel_rfl) rfl #[.slice AU M.U.length cU, .int .i64 a.X.user] (by rfl) rfl rfl (by simp only [List.map_toArray, List.map_cons, List.map_nil]; rfl) ?_
 with_reducible refine (ufind_any M.U AU cU a.X.user _ (mbox_U MB.out)).mono ?_
 rintro e wq ⟨rfl, hb_⟩
 refine ⟨_, rfl, ?_⟩
 have MB' := aq_ (mbox_below MB.out hb_)
 have AB' := aq_ (blk_below AB.out hb_)
 have HB' := aq_ (HB.out.trans (hb_.mono LB.out))
 have LB' := aq_ (Nat.le_trans LB.out hb_.size)
 clear hb_ MB AB HB LB
 have MB := MB'
 have AB := AB'
 have HB := HB'
 have LB := LB'
 clear MB' AB' HB' LB'
 refine hK.out _ _ ⟨blk_cell MB.out.1 0, (cellsA_X AB.out).1⟩ (fun hHeld => ?_)
 clear hK K
 refine norm_ (a' := ?_) ?_ ?_
 rotate_left
 ·show Act.put _ (some 14) _ = _
  simp only [pt_]
  rfl
 refine pu_ 8 (some 15) ?_ (bt_ 9 511) rfl rfl (Or.inl ⟨by rfl, ?_⟩) ?_ ?_ ?_;rotate_left;(intro w';go_simp;with_reducible rfl);rotate_left;(simp only [pt_];rfl)
 refine done_ (by kernel_rfl) ?_
 go_upto_region 4 with (first
  | (with_reducible refine load_S (.tmp 17) rfl rfl (p := ⟨ga, 41, none⟩) rfl (boxA_X AB.out) ?_)
  | (with_reducible refine load_F (.tmp 19) rfl rfl (p := ⟨ga, 1, none⟩) rfl (boxA_F AB.out) ?_)
  | ((go_at_call 18; (with_reducible refine (proof_any a.X a.F _ HS.out HW.out).mono ?_)); rw [T1.out]; rintro e w7 ⟨vp, rfl, hV, hb⟩; obtain ⟨Ap, cp, rfl⟩ := Kd.V_slice hV; have HV := aq_ hV; have MB' := aq_ (mbox_below MB.out hb); have HB' := aq_ (HB.out.trans (Below.mono hb LB.out)); have LB' := aq_ (Nat.le_trans LB.out (Below.size hb));  clear MB HB LB; have MB := MB'; have HB := HB'; have LB := LB'; clear MB' HB' LB'; clear hb hV))
 go_wp2
 go_ret
 exact ⟨_, by rw [HE.out]; rfl, by rw [HE.out]; exact blk_alloc MB.out.1 _, by rw [HE.out]; exact mdO_below (mbox_mdo MB.out) (below_alloc (Below.refl _ _) _), HB.out.alloc LB.out _⟩
set_option maxHeartbeats 4000000 in
theorem emit_2 (M : Mdl) (a : Ac) (vU vT vK vD vA : Value) (w0 w : World) (base g : Nat) (rb : Nat → Prop) (hm : MBox w base g rb M vU vT vK vD) (hB : Below base w0 w) (hb : base ≤ w.heap.size) (hd : wfS a.X) (hw : wfF a.F) (hK : M.K.length < 1000000) (t0 : ¬ findU M.U a.X.user = -1) (t1 : isP a.X a.F = true) (t2 : M.K.length = 40) :
  Calls Tryz.prog 28 #[.pointer (some ⟨g, 0, none⟩), .agg (aca a vA)] w fun e w' => ∃ vK', e = .returned (.int .i64 (emitM M a).2) ∧ w'.heap[g]? = some (.cells (mca (emitM M a).1 vU vT vK' vD) 42 (0, 0)) ∧ MdO w' rb (emitM M a).1 vU vT vK' vD ∧ Below base w0 w' := by
 have HE := aq_ (show emitM M a = (M, 12) by unfold emitM; rw [if_neg t0, if_neg (by rw [t1]; decide), if_pos t2])
 have hq : (findU M.U a.X.user == -1) = false := by simpa using t0
 have hlK : ((M.K.length : Int) == 40) = true := by simp [t2]
 clear t2
 have T1 := aq_ t1
 clear t0 t1
 obtain ⟨⟨AU, cU, rfl⟩, ⟨AT, cT, rfl⟩, ⟨AK, cK, rfl⟩, ⟨AD, cD, rfl⟩⟩ := mbox_slices hm
 have MB := aq_ hm
 have HB := aq_ hB
 have LB := aq_ hb
 have HS := aq_ hd
 have HW := aq_ hw
 have KL := aq_ hK
 clear hm hB hb hd hw hK
 go_enter Tryz.func28, Tryz.ntmps28
 go_upto_region 1 with ((with_reducible refine box_Ac (.tmp 1) (x := a) (v := vA) rfl rfl rfl ?_); intro ga hg w1 hbox hb; have MB' := aq_ (mbox_below MB.out hb); have AB := aq_ hbox; have HB' := aq_ (HB.out.trans (hb.mono LB.out)); have LB' := aq_ (Nat.le_trans LB.out hb.size); clear hg hbox hb MB HB LB; have MB := MB'; have HB := HB'; have LB := LB'; clear MB' HB' LB')
 have MB' := aq_ (mbox_below MB.out (below_drew (Below.refl _ w1)))
 have AB' := aq_ (blk_drew AB.out)
 have HB' := aq_ (below_drew HB.out)
 have LB' := aq_ (show base ≤ w1.drew.heap.size from LB.out)
 clear MB AB HB LB
 have MB := MB'
 have AB := AB'
 have HB := HB'
 have LB := LB'
 clear MB' AB' HB' LB'
 refine start_ (n := 9) (S := fun w' => w'.cell? ⟨g, 0, none⟩ = some (.slice AU M.U.length cU) ∧ w'.cell? ⟨ga, 41, none⟩ = some (.int .i64 a.X.user)) (ds := []) #[false, false, false, false, false, false, false, false, false] (by kernel_rfl) rfl rfl ⟨blk_cell MB.out.1 0, (cellsA_X AB.out).1⟩ (fun hHeld => ?_)
 refine pu_ 0 (some 7) ?_ (bt_ 9 1) rfl rfl (Or.inl ⟨by rfl, ?_⟩) ?_ ?_ ?_;rotate_left;(intro w';go_simp;with_reducible rfl);rotate_left;(simp only [pt_];rfl)
 refine pu_ 1 (some 8) ?_ (bt_ 9 3) rfl rfl (Or.inl ⟨by rfl, ?_⟩) ?_ ?_ ?_;rotate_left;(intro w';go_simp;with_reducible rfl);rotate_left;(simp only [pt_];rfl)
 refine pu_ 2 (some 9) ?_ (bt_ 9 7) rfl rfl (Or.inl ⟨by rfl, ?_⟩) ?_ ?_ ?_;rotate_left;(intro w';go_simp;with_reducible rfl);rotate_left;(simp only [pt_];rfl)
 refine pu_ 4 (some 11) ?_ (bt_ 9 23) rfl rfl (Or.inl ⟨by rfl, ?_⟩) ?_ ?_ ?_;rotate_left;(intro w';go_simp;with_reducible rfl);rotate_left;(simp only [pt_];rfl)
 refine pu_ 5 (some 12) ?_ (bt_ 9 55) rfl rfl (Or.inl ⟨by rfl, ?_⟩) ?_ ?_ ?_;rotate_left;(intro w';go_simp;with_reducible rfl);rotate_left;(simp only [pt_];rfl)
 refine ta_ 3 (some 10) ?_ (bt_ 9 63) rfl rfl (Or.inl ⟨by rfl, ?_⟩) hHeld ?_ ?_ ?_;rotate_left;(rintro w' ⟨s0, s1⟩;go_simp;with_reducible rfl);rotate_left;(simp only [pt_];rfl)
 refine ta_ 6 (some 13) ?_ (bt_ 9 127) rfl rfl (Or.inl ⟨by rfl, ?_⟩) hHeld ?_ ?_ ?_;rotate_left;(rintro w' ⟨s0, s1⟩;go_simp;with_reducible rfl);rotate_left;(simp only [pt_];rfl)
 refine one_ (i := 7) (N := some 14) (bt_ 9 255) rfl rfl (by kernel_rfl) (by decide) (fun K hK => ?_)
 refine goes_ Tryz.func34 (by kernel_rfl) rfl #[.slice AU M.U.length cU, .int .i64 a.X.user] (by rfl) rfl rfl (by simp only [List.map_toArray, List.map_cons, List.map_nil]; rfl) ?_
 with_reducible refine (ufind_any M.U AU cU a.X.user _ (mbox_U MB.out)).mono ?_
 rintro e wq ⟨rfl, hb_⟩
 refine ⟨_, rfl, ?_⟩
 have MB' := aq_ (mbox_below MB.out hb_)
 have AB' := aq_ (blk_below AB.out hb_)
 have HB' := aq_ (HB.out.trans (hb_.mono LB.out))
 have LB' := aq_ (Nat.le_trans LB.out hb_.size)
 clear hb_ MB AB HB LB
 have MB := MB'
 have AB := AB'
 have HB := HB'
 have LB := LB'
 clear MB' AB' HB' LB'
 refine hK.out _ _ ⟨blk_cell MB.out.1 0, (cellsA_X AB.out).1⟩ (fun hHeld => ?_)
 clear hK K
 refine norm_ (a' := ?_) ?_ ?_
 rotate_left
 ·show Act.put _ (some 14) _ = _
  simp only [pt_]
  rfl
 refine pu_ 8 (some 15) ?_ (bt_ 9 511) rfl rfl (Or.inl ⟨by rfl, ?_⟩) ?_ ?_ ?_;rotate_left;(intro w';go_simp;with_reducible rfl);rotate_left;(simp only [pt_];rfl)
 refine done_ (by kernel_rfl) ?_
 have GQ := aq_ (blk_lt MB.out.1)
 have QN := aq_ (mbox_own MB.out)
 go_upto_region 6 with (first
  | (with_reducible refine load_S (.tmp 17) rfl rfl (p := ⟨ga, 41, none⟩) rfl (boxA_X AB.out) ?_)
  | (with_reducible refine load_F (.tmp 19) rfl rfl (p := ⟨ga, 1, none⟩) rfl (boxA_F AB.out) ?_)
  | ((go_at_call 18; (with_reducible refine (proof_any a.X a.F _ HS.out HW.out).mono ?_)); rw [T1.out]; rintro e w7 ⟨vp, rfl, hV, hb⟩; obtain ⟨Ap, cp, rfl⟩ := Kd.V_slice hV; have HV := aq_ hV; have MB' := aq_ (mbox_below MB.out hb); have HB' := aq_ (HB.out.trans (Below.mono hb LB.out)); have LB' := aq_ (Nat.le_trans LB.out (Below.size hb));  clear MB HB LB; have MB := MB'; have HB := HB'; have LB := LB'; clear MB' HB' LB'; have SQ := aq_ hb.size; clear hb hV))
 obtain ⟨gp, hgp⟩ : ∃ gp, gp = w7.heap.size := ⟨_, rfl⟩
 obtain ⟨wp, hwp⟩ : ∃ wp, wp = w7.alloc (.cells #[.int .i64 (proofT a.X a.F).f0, .int .i64 (proofT a.X a.F).f1, .slice Ap (proofT a.X a.F).f2.length cp] 36) := ⟨_, rfl⟩
 rw [← hwp, ← hgp]
 have PB := aq_ (show wp.heap[gp]? = some (.cells #[.int .i64 (proofT a.X a.F).f0, .int .i64 (proofT a.X a.F).f1, .slice Ap (proofT a.X a.F).f2.length cp] 36 (0, 0)) by rw [hwp, hgp]; exact blk_new _ _)
 have hbp : Below w7.heap.size w7 wp := by rw [hwp]; exact below_alloc (Below.refl _ _) _
 have hgq := GQ.out
 have GPS := aq_ (show wq.heap.size ≤ gp by rw [hgp]; exact SQ.out)
 clear hwp hgp
 have MB' := aq_ (mbox_below MB.out hbp); have HB' := aq_ (HB.out.trans (Below.mono hbp LB.out)); have LB' := aq_ (Nat.le_trans LB.out (Below.size hbp));  clear MB HB LB; have MB := MB'; have HB := HB'; have LB := LB'; clear MB' HB' LB'
 have HV' := aq_ (Kd.V_below HV.out hbp)
 clear HV
 have HV := HV'
 clear HV' hbp hgq
 have c5 : wp.cell? ⟨g, 5, none⟩ = some (.slice AK M.K.length cK) := blk_cell MB.out.1 5
 go_wp2
 go_ret
 exact ⟨_, by rw [HE.out]; rfl, by rw [HE.out]; exact MB.out.1, by rw [HE.out]; exact mbox_mdo MB.out, HB.out⟩
set_option maxHeartbeats 4000000 in
theorem emit_3 (M : Mdl) (a : Ac) (vU vT vK vD vA : Value) (w0 w : World) (base g : Nat) (rb : Nat → Prop) (hm : MBox w base g rb M vU vT vK vD) (hB : Below base w0 w) (hb : base ≤ w.heap.size) (hd : wfS a.X) (hw : wfF a.F) (hK : M.K.length < 1000000) (t0 : ¬ findU M.U a.X.user = -1) (t1 : isP a.X a.F = true) (t2 : ¬ M.K.length = 40) :
  Calls Tryz.prog 28 #[.pointer (some ⟨g, 0, none⟩), .agg (aca a vA)] w fun e w' => ∃ vK', e = .returned (.int .i64 (emitM M a).2) ∧ w'.heap[g]? = some (.cells (mca (emitM M a).1 vU vT vK' vD) 42 (0, 0)) ∧ MdO w' rb (emitM M a).1 vU vT vK' vD ∧ Below base w0 w' := by
 have HE := aq_ (show emitM M a = ({ M with K := M.K ++ [proofT a.X a.F] }, 0) by unfold emitM; rw [if_neg t0, if_neg (by rw [t1]; decide), if_neg t2])
 have hq : (findU M.U a.X.user == -1) = false := by simpa using t0
 have hlK : ((M.K.length : Int) == 40) = false := by simpa using (show ¬ ((M.K.length : Int) = 40) by omega)
 clear t2
 have T1 := aq_ t1
 clear t0 t1
 obtain ⟨⟨AU, cU, rfl⟩, ⟨AT, cT, rfl⟩, ⟨AK, cK, rfl⟩, ⟨AD, cD, rfl⟩⟩ := mbox_slices hm
 have MB := aq_ hm
 have HB := aq_ hB
 have LB := aq_ hb
 have HS := aq_ hd
 have HW := aq_ hw
 have KL := aq_ hK
 clear hm hB hb hd hw hK
 go_enter Tryz.func28, Tryz.ntmps28
 go_upto_region 1 with ((with_reducible refine box_Ac (.tmp 1) (x := a) (v := vA) rfl rfl rfl ?_); intro ga hg w1 hbox hb; have MB' := aq_ (mbox_below MB.out hb); have AB := aq_ hbox; have HB' := aq_ (HB.out.trans (hb.mono LB.out)); have LB' := aq_ (Nat.le_trans LB.out hb.size); clear hg hbox hb MB HB LB; have MB := MB'; have HB := HB'; have LB := LB'; clear MB' HB' LB')
 have MB' := aq_ (mbox_below MB.out (below_drew (Below.refl _ w1)))
 have AB' := aq_ (blk_drew AB.out)
 have HB' := aq_ (below_drew HB.out)
 have LB' := aq_ (show base ≤ w1.drew.heap.size from LB.out)
 clear MB AB HB LB
 have MB := MB'
 have AB := AB'
 have HB := HB'
 have LB := LB'
 clear MB' AB' HB' LB'
 refine start_ (n := 9) (S := fun w' => w'.cell? ⟨g, 0, none⟩ = some (.slice AU M.U.length cU) ∧ w'.cell? ⟨ga, 41, none⟩ = some (.int .i64 a.X.user)) (ds := []) #[false, false, false, false, false, false, false, false, false] (by kernel_rfl) rfl rfl ⟨blk_cell MB.out.1 0, (cellsA_X AB.out).1⟩ (fun hHeld => ?_)
 refine pu_ 0 (some 7) ?_ (bt_ 9 1) rfl rfl (Or.inl ⟨by rfl, ?_⟩) ?_ ?_ ?_;rotate_left;(intro w';go_simp;with_reducible rfl);rotate_left;(simp only [pt_];rfl)
 refine pu_ 1 (some 8) ?_ (bt_ 9 3) rfl rfl (Or.inl ⟨by rfl, ?_⟩) ?_ ?_ ?_;rotate_left;(intro w';go_simp;with_reducible rfl);rotate_left;(simp only [pt_];rfl)
 refine pu_ 2 (some 9) ?_ (bt_ 9 7) rfl rfl (Or.inl ⟨by rfl, ?_⟩) ?_ ?_ ?_;rotate_left;(intro w';go_simp;with_reducible rfl);rotate_left;(simp only [pt_];rfl)
 refine pu_ 4 (some 11) ?_ (bt_ 9 23) rfl rfl (Or.inl ⟨by rfl, ?_⟩) ?_ ?_ ?_;rotate_left;(intro w';go_simp;with_reducible rfl);rotate_left;(simp only [pt_];rfl)
 refine pu_ 5 (some 12) ?_ (bt_ 9 55) rfl rfl (Or.inl ⟨by rfl, ?_⟩) ?_ ?_ ?_;rotate_left;(intro w';go_simp;with_reducible rfl);rotate_left;(simp only [pt_];rfl)
 refine ta_ 3 (some 10) ?_ (bt_ 9 63) rfl rfl (Or.inl ⟨by rfl, ?_⟩) hHeld ?_ ?_ ?_;rotate_left;(rintro w' ⟨s0, s1⟩;go_simp;with_reducible rfl);rotate_left;(simp only [pt_];rfl)
 refine ta_ 6 (some 13) ?_ (bt_ 9 127) rfl rfl (Or.inl ⟨by rfl, ?_⟩) hHeld ?_ ?_ ?_;rotate_left;(rintro w' ⟨s0, s1⟩;go_simp;with_reducible rfl);rotate_left;(simp only [pt_];rfl)
 refine one_ (i := 7) (N := some 14) (bt_ 9 255) rfl rfl (by kernel_rfl) (by decide) (fun K hK => ?_)
 refine goes_ Tryz.func34 (by kernel_rfl) rfl #[.slice AU M.U.length cU, .int .i64 a.X.user] (by rfl) rfl rfl (by simp only [List.map_toArray, List.map_cons, List.map_nil]; rfl) ?_
 with_reducible refine (ufind_any M.U AU cU a.X.user _ (mbox_U MB.out)).mono ?_
 rintro e wq ⟨rfl, hb_⟩
 refine ⟨_, rfl, ?_⟩
 have MB' := aq_ (mbox_below MB.out hb_)
 have AB' := aq_ (blk_below AB.out hb_)
 have HB' := aq_ (HB.out.trans (hb_.mono LB.out))
 have LB' := aq_ (Nat.le_trans LB.out hb_.size)
 clear hb_ MB AB HB LB
 have MB := MB'
 have AB := AB'
 have HB := HB'
 have LB := LB'
 clear MB' AB' HB' LB'
 refine hK.out _ _ ⟨blk_cell MB.out.1 0, (cellsA_X AB.out).1⟩ (fun hHeld => ?_)
 clear hK K
 refine norm_ (a' := ?_) ?_ ?_
 rotate_left
 ·show Act.put _ (some 14) _ = _
  simp only [pt_]
  rfl
 refine pu_ 8 (some 15) ?_ (bt_ 9 511) rfl rfl (Or.inl ⟨by rfl, ?_⟩) ?_ ?_ ?_;rotate_left;(intro w';go_simp;with_reducible rfl);rotate_left;(simp only [pt_];rfl)
 refine done_ (by kernel_rfl) ?_
 have GQ := aq_ (blk_lt MB.out.1)
 have QN := aq_ (mbox_own MB.out)
 go_upto_region 6 with (first
  | (with_reducible refine load_S (.tmp 17) rfl rfl (p := ⟨ga, 41, none⟩) rfl (boxA_X AB.out) ?_)
  | (with_reducible refine load_F (.tmp 19) rfl rfl (p := ⟨ga, 1, none⟩) rfl (boxA_F AB.out) ?_)
  | ((go_at_call 18; (with_reducible refine (proof_any a.X a.F _ HS.out HW.out).mono ?_)); rw [T1.out]; rintro e w7 ⟨vp, rfl, hV, hb⟩; obtain ⟨Ap, cp, rfl⟩ := Kd.V_slice hV; have HV := aq_ hV; have MB' := aq_ (mbox_below MB.out hb); have HB' := aq_ (HB.out.trans (Below.mono hb LB.out)); have LB' := aq_ (Nat.le_trans LB.out (Below.size hb));  clear MB HB LB; have MB := MB'; have HB := HB'; have LB := LB'; clear MB' HB' LB'; have SQ := aq_ hb.size; clear hb hV))
 obtain ⟨gp, hgp⟩ : ∃ gp, gp = w7.heap.size := ⟨_, rfl⟩
 obtain ⟨wp, hwp⟩ : ∃ wp, wp = w7.alloc (.cells #[.int .i64 (proofT a.X a.F).f0, .int .i64 (proofT a.X a.F).f1, .slice Ap (proofT a.X a.F).f2.length cp] 36) := ⟨_, rfl⟩
 rw [← hwp, ← hgp]
 have PB := aq_ (show wp.heap[gp]? = some (.cells #[.int .i64 (proofT a.X a.F).f0, .int .i64 (proofT a.X a.F).f1, .slice Ap (proofT a.X a.F).f2.length cp] 36 (0, 0)) by rw [hwp, hgp]; exact blk_new _ _)
 have hbp : Below w7.heap.size w7 wp := by rw [hwp]; exact below_alloc (Below.refl _ _) _
 have hgq := GQ.out
 have GPS := aq_ (show wq.heap.size ≤ gp by rw [hgp]; exact SQ.out)
 clear hwp hgp
 have MB' := aq_ (mbox_below MB.out hbp); have HB' := aq_ (HB.out.trans (Below.mono hbp LB.out)); have LB' := aq_ (Nat.le_trans LB.out (Below.size hbp));  clear MB HB LB; have MB := MB'; have HB := HB'; have LB := LB'; clear MB' HB' LB'
 have HV' := aq_ (Kd.V_below HV.out hbp)
 clear HV
 have HV := HV'
 clear HV' hbp hgq
 have c5 : wp.cell? ⟨g, 5, none⟩ = some (.slice AK M.K.length cK) := blk_cell MB.out.1 5
 go_upto_region 8 with (fail)
 clear c5
 have MB' := aq_ (mbox_below MB.out (below_drew (Below.refl _ wp)))
 have PB' := aq_ (blk_drew PB.out)
 have HB' := aq_ (below_drew HB.out)
 have LB' := aq_ (show base ≤ wp.drew.heap.size from LB.out)
 have HV' := aq_ (Kd.V_drew HV.out)
 clear MB PB HB LB HV
 have MB := MB'
 have PB := PB'
 have HB := HB'
 have LB := LB'
 have HV := HV'
 clear MB' PB' HB' LB' HV'
 have LQ := aq_ (show wq.heap.size ≤ wp.drew.heap.size from Nat.le_trans GPS.out (Nat.le_of_lt (blk_lt PB.out)))
 obtain ⟨hg0, hbg, PU, PT, PK, PD, h1, h2, h3, h4, h5, h6, n1, n2, n3, n4, nr⟩ := MB.out
 have NK := aq_ (Kd.N_mono h3 (ok' := fun k => PK k ∨ wq.heap.size ≤ k) fun k hk => Or.inl hk)
 have HBG := aq_ hbg
 have PG := aq_ (show ∀ k, PK k → k ≠ g ∧ ¬ rb k from fun k hk => ⟨fun e => n3 (e ▸ hk), fun e => (nr k e).2.2.2.1 hk⟩)
 have RL := aq_ (show ∀ k, rb k → k < base from fun k hk => (nr k hk).1)
 have GO := aq_ (show (Value.slice AK M.K.length cK).ownBlock ≠ some g from fun e => n3 (h3.1 g e))
 have GP := aq_ (show (Value.slice AK M.K.length cK).ownBlock ≠ some gp from fun e => QN.out gp e GPS.out)
 clear hg0 hbg h1 h2 h3 h4 h5 h6 n1 n2 n3 n4 nr
 have c0 : wp.drew.cell? ⟨g, 5, none⟩ = some (.slice AK M.K.length cK) := blk_cell MB.out.1 5
 obtain ⟨⟨k0, k1, k2⟩, _⟩ := cells3 PB.out
 refine start_ (n := 13) (S := fun w' => w'.cell? ⟨g, 5, none⟩ = some (.slice AK M.K.length cK) ∧ w'.cell? ⟨gp, 0, none⟩ = some (.int .i64 (proofT a.X a.F).f0) ∧ w'.cell? ⟨gp, 1, none⟩ = some (.int .i64 (proofT a.X a.F).f1) ∧ w'.cell? ⟨gp, 2, none⟩ = some (.slice Ap (proofT a.X a.F).f2.length cp)) (ds := [9, 12]) #[false, false, false, false, false, false, false, false, false, false, false, false, false] (by kernel_rfl) rfl rfl ⟨c0, k0, k1, k2⟩ (fun hHeld => ?_)
 refine pu_ 0 (some 32) ?_ (bt_ 13 1) rfl rfl (Or.inl ⟨by rfl, ?_⟩) ?_ ?_ ?_;rotate_left;(intro w';go_simp;with_reducible rfl);rotate_left;(simp only [pt_];rfl)
 refine pu_ 1 (some 33) ?_ (bt_ 13 3) rfl rfl (Or.inl ⟨by rfl, ?_⟩) ?_ ?_ ?_;rotate_left;(intro w';go_simp;with_reducible rfl);rotate_left;(simp only [pt_];rfl)
 refine pu_ 2 (some 34) ?_ (bt_ 13 7) rfl rfl (Or.inl ⟨by rfl, ?_⟩) ?_ ?_ ?_;rotate_left;(intro w';go_simp;with_reducible rfl);rotate_left;(simp only [pt_];rfl)
 refine ta_ 3 (some 35) ?_ (bt_ 13 15) rfl rfl (Or.inl ⟨by rfl, ?_⟩) hHeld ?_ ?_ ?_;rotate_left;(rintro w' ⟨s0, s1, s2, s3⟩;go_simp;with_reducible rfl);rotate_left;(simp only [pt_];rfl)
 refine pu_ 5 (some 37) ?_ (bt_ 13 47) rfl rfl (Or.inl ⟨by rfl, ?_⟩) ?_ ?_ ?_;rotate_left;(intro w';go_simp;with_reducible rfl);rotate_left;(simp only [pt_];rfl)
 refine ta_ 4 (some 36) ?_ (bt_ 13 63) rfl rfl (Or.inl ⟨by rfl, ?_⟩) hHeld ?_ ?_ ?_;rotate_left;(rintro w' ⟨s0, s1, s2, s3⟩;go_simp;with_reducible rfl);rotate_left;(simp only [pt_];rfl)
 refine one_ (i := 6) (N := some 38) (bt_ 13 127) rfl rfl (by kernel_rfl) (by decide) (fun K hK => ?_)
 refine value_ (w1 := ?_) (v := ?_) (by rfl) rfl ?_ ?_
 rotate_left 2
 ·go_simp
  constructor
  ·rfl
  ·rfl
 obtain ⟨⟨k0, k1, k2⟩, _⟩ := cells3 (blk_alloc PB.out (.cells #[.int .i64 0, .int .i64 0, .slice none 0 0] 36 (0, 0)))
 have c0 := (blk_cell (blk_alloc MB.out.1 (.cells #[.int .i64 0, .int .i64 0, .slice none 0 0] 36 (0, 0))) 5)
 refine hK.out _ _ ⟨c0, k0, k1, k2⟩ (fun hHeld => ?_)
 clear hK K
 refine norm_ (a' := ?_) ?_ ?_
 rotate_left
 ·show Act.put _ (some 38) _ = _
  simp only [pt_]
  rfl
 refine one_ (i := 7) (N := some 39) (bt_ 13 255) rfl rfl (by kernel_rfl) (by decide) (fun K hK => ?_)
 refine Kd.N_append_step k24 (w0 := w0) base (by rfl) (.tmp 35) (.tmp 38) 34 36 (.agg #[.int .i64 0, .int .i64 0, .slice none 0 0]) 40 (by rfl) Tryz.underlying34 info24 rfl (by decide) (by omega) (.slice AK M.K.length cK) M.K z24 [.int .i64 0, .int .i64 0, .slice none 0 0] (fun k => PK k ∨ wq.heap.size ≤ k) (fun _ => False) (by rfl) (by rfl) (k24_mkF _ _ z24 (A2 := none) (c2 := 0) (Nat.le_refl _) (Kd.F_nil _ _ _)) (fun _ h => h.elim) (fun k hk => Or.inr (Nat.le_trans LQ.out hk)) NK.out HB.out LB.out (by have := KL.out; omega) ?_
 intro v' w5 hN hb hg hat
 obtain ⟨g', cap', ev, hge, hglt, cells_, hcc_⟩ := Kd.N_form hN (by simp)
 have HTY := aq_ hcc_
 rw [List.length_append, List.length_singleton] at ev
 subst ev
 have HN5 := aq_ hN
 have HG5 := aq_ hg
 have HB5 := aq_ hb
 have HGE := aq_ hge
 have HAT : Aside0 (some g' = (Value.slice AK M.K.length cK).ownBlock ∨ wp.drew.heap.size ≤ g') := ⟨hat.imp (fun h => h) (fun ⟨b, h, hb⟩ => by have e : g' = b := (by simpa [Value.ownBlock] using h); rw [e]; exact hb)⟩
 have hgo : g' ≠ g := app_off MB.out HAT.out
 have hog : g ≠ g' := fun e => hgo e.symm
 have hgb : gp ≠ g' := fun e => HAT.out.elim (fun h => GP.out (by rw [e]; exact h.symm)) (fun h => by have := blk_lt PB.out; omega)
 obtain ⟨ce, hcl, hM, hcc', hfr⟩ := Kd.N_elem hN z24 (M.K.length : Int) (by omega) (by omega)
 rw [show (M.K ++ [z24]).getD ((M.K.length : Int).toNat) z24 = z24 by simp] at hM
 obtain ⟨ua, uc, rfl, ul, ge⟩ := k24_openF hM
 have HCE := aq_ hcc'
 rw [Int.toNat_natCast] at hcc' hfr
 have y0 : World.cell? w5 ⟨g', M.K.length * 3, none⟩ = some (.int .i64 _) := hcc' 0 _ rfl
 have y1 : World.cell? w5 ⟨g', M.K.length * 3 + 1, none⟩ = some (.int .i64 _) := hcc' 1 _ rfl
 have y2 : World.cell? w5 ⟨g', M.K.length * 3 + 2, none⟩ = some (.slice _ _ _) := hcc' 2 _ rfl
 have u0 : World.frozen? w5 ⟨g', M.K.length * 3, none⟩ = false := hfr 0
 have u1 : World.frozen? w5 ⟨g', M.K.length * 3 + 1, none⟩ = false := hfr 1
 have u2 : World.frozen? w5 ⟨g', M.K.length * 3 + 2, none⟩ = false := hfr 2
 have HP5 := aq_ (show w5.heap[gp]? = some (.cells #[.int .i64 (proofT a.X a.F).f0, .int .i64 (proofT a.X a.F).f1, .slice Ap (proofT a.X a.F).f2.length cp] 36 (0, 0)) from (hg.block gp (blk_lt PB.out) (fun e => GP.out e.symm)).trans PB.out)
 have HM5 := aq_ (show w5.heap[g]? = some (.cells (mca M (.slice AU M.U.length cU) (.slice AT M.T.length cT) (.slice AK M.K.length cK) (.slice AD M.D.length cD)) 42 (0, 0)) from (hg.block g (blk_lt MB.out.1) (fun e => GO.out e.symm)).trans MB.out.1)
 have c5 : World.cell? w5 ⟨g, 5, none⟩ = some (.slice AK M.K.length cK) := (blk_cell HM5.out 5).trans rfl
 have d5 := blk_frozen HM5.out 5
 obtain ⟨⟨m0, m1, m2⟩, _⟩ := cells3 HP5.out
 have hlt : (M.K.length : Int) < (M.K.length : Int) + 1 := by omega
 clear hN hg hat hb hge hcc' hfr hM ge hglt hcl hcc_
 refine hK.out _ _ ⟨c5, m0, m1, m2⟩ (fun hHeld => ?_)
 clear hK K
 refine norm_ (a' := ?_) ?_ ?_
 rotate_left
 ·show Act.put _ (some 39) _ = _
  simp only [pt_]
  rfl
 refine pu_ 8 (some 40) ?_ (bt_ 13 511) rfl rfl (Or.inl ⟨by rfl, ?_⟩) ?_ ?_ ?_;rotate_left;(intro w';go_simp;with_reducible rfl);rotate_left;(simp only [pt_];rfl)
 refine pu_ 10 (some 41) ?_ (bt_ 13 1535) rfl rfl (Or.inl ⟨by rfl, ?_⟩) ?_ ?_ ?_;rotate_left;(intro w';go_simp;with_reducible rfl);rotate_left;(simp only [pt_];rfl)
 refine pu_ 11 (some 42) ?_ (bt_ 13 3583) rfl rfl (Or.inl ⟨by rfl, ?_⟩) ?_ ?_ ?_;rotate_left;(intro w';go_simp;with_reducible rfl);rotate_left;(simp only [pt_];rfl)
 refine two_last_ (i := 9) (j := 12) (Ni := none) (Nj := none) (bt_ 13 4095) (bt_ 13 7679) rfl rfl rfl rfl (by kernel_rfl) (by decide) (by decide) (fun K hK => ?_) (fun K hK => ?_)
 ·refine skip_ (w1 := ?_) (by rfl) rfl ?_ ?_
  rotate_left
  ·go_simp
   rfl
  refine hK.out _ _ ?_
  clear hK K
  refine last_ (i := 12) (N := none) (bt_ 13 8191) rfl rfl (by kernel_rfl) (by decide) (fun K hK => ?_)
  refine skip_ (w1 := ?_) (by rfl) rfl ?_ ?_
  rotate_left
  ·go_simp
   rfl
  refine hK.out _ _ ?_
  clear hK K
  refine done_ (by kernel_rfl) ?_
  go_wp2
  go_ret
  have hF := Kd.FK_step (Kd.FK_mono (Kd.FK_bound (FK_of_V HV.out)) (ok' := fun k => wq.heap.size ≤ k ∧ k < wp.drew.heap.size ∧ k ≠ g') fun k hk => ⟨hk.1, hk.2, fun e => HAT.out.elim (fun h => QN.out k (by rw [e]; exact h.symm) hk.1) (fun h => by have := hk.2; omega)⟩) (fun k hk hlt => HG5.out.block k hlt fun e => QN.out k e.symm hk.1)
  obtain ⟨q1, q2⟩ := emit_fin (ok := (fun k => PK k ∨ wq.heap.size ≤ k)) (okp := fun k => wq.heap.size ≤ k ∧ k < wp.drew.heap.size ∧ k ≠ g') MB.out HG5.out HAT.out HN5.out (fun k hk => hk.elim (fun h => PG.out k h) (fun h => ⟨by have := GQ.out; omega, fun e => by have := RL.out k e; have := GQ.out; have := HBG.out; omega⟩)) hF (fun k hk => ⟨.inr hk.1, hk.2.2⟩) (fun k hk => Below.heap_setCell _ _ _ _ hk) (blk_put (blk_far (blk_far (blk_far (HM5.out) hog _) hog _) hog _) 5 _ rfl)
  exact ⟨_, by rw [HE.out]; rfl, by rw [HE.out]; exact q1, by rw [HE.out]; exact q2, (Below.setCell (Below.setCell (Below.setCell (Below.setCell HB5.out (p := ⟨g', M.K.length * 3, none⟩) HGE.out _) (p := ⟨g', M.K.length * 3 + 1, none⟩) HGE.out _) (p := ⟨g', M.K.length * 3 + 2, none⟩) HGE.out _) (p := ⟨g, 5, none⟩) HBG.out _)⟩
 ·refine skip_ (w1 := ?_) (by rfl) rfl ?_ ?_
  rotate_left
  ·go_simp
   rfl
  refine hK.out _ _ ?_
  clear hK K
  refine last_ (i := 9) (N := none) (bt_ 13 8191) rfl rfl (by kernel_rfl) (by decide) (fun K hK => ?_)
  refine skip_ (w1 := ?_) (by rfl) rfl ?_ ?_
  rotate_left
  ·go_simp
   rfl
  refine hK.out _ _ ?_
  clear hK K
  refine done_ (by kernel_rfl) ?_
  go_wp2
  go_ret
  have hF := Kd.FK_step (Kd.FK_mono (Kd.FK_bound (FK_of_V HV.out)) (ok' := fun k => wq.heap.size ≤ k ∧ k < wp.drew.heap.size ∧ k ≠ g') fun k hk => ⟨hk.1, hk.2, fun e => HAT.out.elim (fun h => QN.out k (by rw [e]; exact h.symm) hk.1) (fun h => by have := hk.2; omega)⟩) (fun k hk hlt => HG5.out.block k hlt fun e => QN.out k e.symm hk.1)
  obtain ⟨q1, q2⟩ := emit_fin (ok := (fun k => PK k ∨ wq.heap.size ≤ k)) (okp := fun k => wq.heap.size ≤ k ∧ k < wp.drew.heap.size ∧ k ≠ g') MB.out HG5.out HAT.out HN5.out (fun k hk => hk.elim (fun h => PG.out k h) (fun h => ⟨by have := GQ.out; omega, fun e => by have := RL.out k e; have := GQ.out; have := HBG.out; omega⟩)) hF (fun k hk => ⟨.inr hk.1, hk.2.2⟩) (set31 hog HTY.out) (blk_far (blk_far (blk_far (blk_put HM5.out 5 _ rfl) hog _) hog _) hog _)
  exact ⟨_, by rw [HE.out]; rfl, by rw [HE.out]; exact q1, by rw [HE.out]; exact q2, (Below.setCell (Below.setCell (Below.setCell (Below.setCell HB5.out (p := ⟨g, 5, none⟩) HBG.out _) (p := ⟨g', M.K.length * 3, none⟩) HGE.out _) (p := ⟨g', M.K.length * 3 + 1, none⟩) HGE.out _) (p := ⟨g', M.K.length * 3 + 2, none⟩) HGE.out _)⟩
theorem emit_any (M : Mdl) (a : Ac) (vU vT vK vD vA : Value) (w0 w : World) (base g : Nat) (rb : Nat → Prop) (hm : MBox w base g rb M vU vT vK vD) (hB : Below base w0 w) (hb : base ≤ w.heap.size) (hd : wfS a.X) (hw : wfF a.F) (hK : M.K.length < 1000000) :
  Calls Tryz.prog 28 #[.pointer (some ⟨g, 0, none⟩), .agg (aca a vA)] w fun e w' => ∃ vK', e = .returned (.int .i64 (emitM M a).2) ∧ w'.heap[g]? = some (.cells (mca (emitM M a).1 vU vT vK' vD) 42 (0, 0)) ∧ MdO w' rb (emitM M a).1 vU vT vK' vD ∧ Below base w0 w' := by
 by_cases t0 : findU M.U a.X.user = -1
 ·exact emit_0 M a vU vT vK vD vA w0 w base g rb hm hB hb hd hw hK t0
 cases t1 : isP a.X a.F
 ·exact emit_1 M a vU vT vK vD vA w0 w base g rb hm hB hb hd hw hK t0 t1
 by_cases t2 : M.K.length = 40
 ·exact emit_2 M a vU vT vK vD vA w0 w base g rb hm hB hb hd hw hK t0 t1 t2
 ·exact emit_3 M a vU vT vK vD vA w0 w base g rb hm hB hb hd hw hK t0 t1 t2
end Go.Proofs.YtdinphnljokigaaGreat.P
end
