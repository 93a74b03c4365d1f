/- What LawSymAgree rests on, part 27: several texts put together. -/
import Derived.Test.YtdinphnljokigaaGreatS26
import Derived.Test.YtdinphnljokigaaGreatS21
import Derived.Test.YtdinphnljokigaaGreatS10
import Derived.Test.YtdinphnljokigaaGreatS9
import Derived.Test.YtdinphnljokigaaGreatS16
import Derived.Scope
import Derived.ScopeJumps
import Derived.Test.YtdinphnljokigaaGreatS3
set_option linter.unusedVariables false
set_option linter.unnecessarySimpa false
set_option linter.unusedSimpArgs false
set_option maxRecDepth 100000
section
namespace Go.Proofs.YtdinphnljokigaaGreat.P
open Go.RowKit Go.Lib Go.Proofs.YtdinphnljokigaaGreatW.PrintWords Go.Proofs.YtdinphnljokigaaGreatW.PrintLast Go.Proofs.YtdinphnljokigaaGreatW.PrintMore
section
variable {P : Program} {ops : Array Oper} {Q : Exit → Act → World → Prop} {md : Region.Mode} {S : World → Prop} {ds : List Nat}
end
theorem mbox_slices {w : World} {base g : Nat} {rb : Nat → Prop} {M : Mdl} {vU vT vK vD : Value} (h : MBox w base g rb M vU vT vK vD) : (∃ A c, vU = .slice A M.U.length c) ∧ (∃ A c, vT = .slice A M.T.length c) ∧ (∃ A c, vK = .slice A M.K.length c) ∧ (∃ A c, vD = .slice A M.D.length c) := by
 obtain ⟨⟨A, c, e, _⟩, ⟨A1, c1, e1, _⟩, ⟨A2, c2, e2, _⟩, ⟨A3, c3, e3, _⟩⟩ := mbox_told h
 exact ⟨⟨A, c, e⟩, ⟨A1, c1, e1⟩, ⟨A2, c2, e2⟩, ⟨A3, c3, e3⟩⟩
theorem told_C' {α : Type} {d : Kd α} {w : World} {A : Option Addr} {n c : Nat} {l : List α} (h : Told d w (.slice A n c) l) : n = l.length ∧ n ≤ c ∧ d.C w A l.length l := by
 obtain ⟨A', c', e, hc, hC⟩ := h
 injection e with e1 e2 e3
 subst e1 e3
 exact ⟨e2, by omega, hC⟩
theorem mbox_U {w : World} {base g : Nat} {rb : Nat → Prop} {M : Mdl} {AU : Option Addr} {cU : Nat} {vT vK vD : Value} (h : MBox w base g rb M (.slice AU M.U.length cU) vT vK vD) : kU.C w AU M.U.length M.U := (told_C' (mbox_told h).1).2.2
theorem mbox_T {w : World} {base g : Nat} {rb : Nat → Prop} {M : Mdl} {AT : Option Addr} {cT : Nat} {vU vK vD : Value} (h : MBox w base g rb M vU (.slice AT M.T.length cT) vK vD) : kS.C w AT M.T.length M.T ∧ M.T.length ≤ cT := ⟨(told_C' (mbox_told h).2.1).2.2, (told_C' (mbox_told h).2.1).2.1⟩
theorem mbox_own {w : World} {base g : Nat} {rb : Nat → Prop} {M : Mdl} {vU vT vK vD : Value} (h : MBox w base g rb M vU vT vK vD) : ∀ k, vK.ownBlock = some k → ¬ w.heap.size ≤ k := by
 obtain ⟨_, _, PU, PT, PK, PD, _, _, h3, _⟩ := h
 intro k hk
 have := Kd.N_lt h3 k hk
 omega
def emitM (M : Mdl) (a : Ac) : Mdl × Int := if findU M.U a.X.user = -1 then (M, 5) else if isP a.X a.F = false then (M, 3) else if M.K.length = 40 then (M, 12) else ({ M with K := M.K ++ [proofT a.X a.F] }, 0)
theorem set31 {w : World} {g g' o0 o1 o2 j : Nat} {a b c v : Value} {t : TypeId} {cs : Array Value} (hne : g ≠ g') (hb : w.heap[g']? = some (.cells cs t (0, 0))) : ∀ k, k ≠ g → ((((w.setCell ⟨g, j, none⟩ v).setCell ⟨g', o0, none⟩ a).setCell ⟨g', o1, none⟩ b).setCell ⟨g', o2, none⟩ c).heap[k]? = (((w.setCell ⟨g', o0, none⟩ a).setCell ⟨g', o1, none⟩ b).setCell ⟨g', o2, none⟩ c).heap[k]? := by
 intro k hk
 by_cases hk' : k = g'
 ·subst hk'
  have h1 : (w.setCell ⟨g, j, none⟩ v).heap[k]? = some (.cells cs t (0, 0)) := blk_far hb (fun e => hk e) v
  exact (blk_set (blk_set (blk_set h1 o0 a) o1 b) o2 c).trans (blk_set (blk_set (blk_set hb o0 a) o1 b) o2 c).symm
 ·rw [Below.heap_setCell _ _ _ _ hk', Below.heap_setCell _ _ _ _ hk', Below.heap_setCell _ _ _ _ hk', Below.heap_setCell _ _ _ _ hk, Below.heap_setCell _ _ _ _ hk', Below.heap_setCell _ _ _ _ hk', Below.heap_setCell _ _ _ _ hk']
theorem app_off {w : World} {base g g' : Nat} {rb : Nat → Prop} {M : Mdl} {vU vT vK vD : Value} (h : MBox w base g rb M vU vT vK vD) (hat : some g' = vK.ownBlock ∨ w.heap.size ≤ g') : g' ≠ g := by
 intro e
 subst e
 obtain ⟨h0, _, PU, PT, PK, PD, _, _, h3, _, _, _, _, _, n3, _⟩ := h
 rcases hat with h | h
 ·exact n3 (h3.1 _ h.symm)
 ·have := blk_lt h0
  omega
theorem emit_fin {W w5 Wf : World} {base g g' cap' : Nat} {rb : Nat → Prop} {M : Mdl} {vU vT vK vD vp : Value} {p : S24} {ok okp : Nat → Prop} (MB : MBox W base g rb M vU vT vK vD) (hg : W.grownBy w5 vK.ownBlock) (hat : some g' = vK.ownBlock ∨ W.heap.size ≤ g')
  (hN : Kd.N k24 36 w5 base ok (.slice (some ⟨g', 0, none⟩) (M.K.length + 1) cap') (M.K ++ [z24])) (hok : ∀ k, ok k → k ≠ g ∧ ¬ rb k) (hF : Kd.FK k24 w5 okp p [.int .i64 p.f0, .int .i64 p.f1, vp]) (hokp : ∀ k, okp k → ok k ∧ k ≠ g')
  (hf : ∀ k, k ≠ g → Wf.heap[k]? = (((w5.setCell ⟨g', M.K.length * 3, none⟩ (.int .i64 p.f0)).setCell ⟨g', M.K.length * 3 + 1, none⟩ (.int .i64 p.f1)).setCell ⟨g', M.K.length * 3 + 2, none⟩ vp).heap[k]?)
  (hx : Wf.heap[g]? = some (.cells (mca M vU vT (.slice (some ⟨g', 0, none⟩) (M.K.length + 1) cap') vD) 42 (0, 0))) :
  Wf.heap[g]? = some (.cells (mca { M with K := M.K ++ [p] } vU vT (.slice (some ⟨g', 0, none⟩) (M.K.length + 1) cap') vD) 42 (0, 0)) ∧ MdO Wf rb { M with K := M.K ++ [p] } vU vT (.slice (some ⟨g', 0, none⟩) (M.K.length + 1) cap') vD := by
 refine ⟨hx, ?_⟩
 have hgg := app_off MB hat
 obtain ⟨h0, hbg, PU, PT, PK, PD, h1, h2, h3, h4, h5, h6, n1, n2, n3, n4, nr⟩ := MB
 have far : ∀ k, k ≠ g → k ≠ g' → Wf.heap[k]? = w5.heap[k]? := fun k hk hk' => by
  rw [hf k hk, Below.heap_setCell _ _ _ _ hk', Below.heap_setCell _ _ _ _ hk', Below.heap_setCell _ _ _ _ hk']
 have step : ∀ Q : Nat → Prop, ¬ Q g → (∀ k, vK.ownBlock = some k → ¬ Q k) → ∀ k, (Q k ∧ k < W.heap.size) → k < W.heap.size → Wf.heap[k]? = W.heap[k]? := by
  intro Q hq hown k hk hlt
  have e1 : k ≠ g := fun e => hq (e ▸ hk.1)
  have e2 : k ≠ g' := fun e => by
   subst e
   rcases hat with h | h
   ·exact hown k h.symm hk.1
   ·omega
  rw [far k e1 e2]
  exact hg.block k hlt fun e => hown k e.symm hk.1
 refine ⟨Kd.V_mono (Kd.V_step (Kd.V_bound h1) (step PU n1 fun k hk => (h5 k hk).1)) fun k hk e => (nr k e).2.1 hk.1, Kd.V_mono (Kd.V_step (Kd.V_bound h2) (step PT n2 fun k hk => (h5 k hk).2.1)) fun k hk e => (nr k e).2.2.1 hk.1, ?_, ?_⟩
 ·obtain ⟨ce, hcl, hM, hcc, hfr⟩ := Kd.N_elem hN z24 (M.K.length : Int) (by omega) (by omega)
  have hseg := (Kd.N_seg (okp := okp) hN (M.K.length : Int) (by omega) (by omega) (seg := [.int .i64 p.f0, .int .i64 p.f1, vp]) (j := 0) (c := ce) hcl hcc (Nat.le_refl 3) (x' := p) (by
   have h3 : ce.length = 3 := hcl
   have e : ce.take 0 ++ [.int .i64 p.f0, .int .i64 p.f1, vp] ++ ce.drop (0 + 3) = [.int .i64 p.f0, .int .i64 p.f1, vp] := by
    rw [List.take_zero, List.nil_append, List.drop_of_length_le (by omega), List.append_nil]
   show Kd.FK k24 w5 okp p (ce.take 0 ++ [.int .i64 p.f0, .int .i64 p.f1, vp] ++ ce.drop (0 + 3))
   rw [e]
   exact hF) hokp).1
  rw [show (M.K ++ [z24]).set ((M.K.length : Int).toNat) p = M.K ++ [p] by simp] at hseg
  have hz : ((M.K.length : Int).toNat * k24.sz + 0) = M.K.length * 3 := by
   rw [Int.toNat_natCast]
   rfl
  rw [hz] at hseg
  have hN2 := Kd.N_V (base' := 0) (Kd.N_step hseg (w1 := Wf) fun k hk _ => hf k (hok k hk).1)
  exact Kd.V_mono hN2 fun k hk => (hok k hk).2
 ·have hRD := (Kd.R_step (Kd.R_mono (Kd.R_bound h4) (ok' := fun k => PD k ∧ k < W.heap.size) fun k hk => ⟨hk.1, hk.2.2.1⟩) (step PD n4 fun k hk => (h5 k hk).2.2))
  exact Kd.V_mono (Kd.R_V (base' := 0) hRD) fun k hk e => (nr k e).2.2.2.2 hk.1
def helloX (M : Mdl) (a : Ac) : Ses := ⟨a.F.user, M.epoch, a.X.draw, a.F.cn, zkey, false, 0, 0⟩
def helloM (M : Mdl) (a : Ac) : Mdl × Int := if findU M.U a.F.user = -1 then (M, 5) else if 4611686018427387904 ≤ a.X.draw ∨ 4611686018427387904 ≤ a.F.cn then (M, 1) else ({ M with T := (beginS M.T (helloX M a) M.idle M.now).1 }, (beginS M.T (helloX M a) M.idle M.now).2)
theorem R_off {base B : Nat} {w : World} {v : Value} {r : List Ses} (h : ToldO B w v r) : Kd.V kS 33 w 0 (fun k => B ≤ k) v r := by
 obtain ⟨b, hb, ok, h⟩ := h
 exact Kd.V_mono (Kd.R_V (Kd.R_bound h)) fun k hk => Nat.le_trans hb hk.2.1
theorem told_base {B g : Nat} {rb : Nat → Prop} {w : World} {v vK vD : Value} {r : List Ses} (h : ToldO B w v r) (hg : g < B ∧ ∀ k, rb k → k < B) (hK : ∀ k, vK.ownBlock = some k → ¬ B ≤ k) (hD : ∀ k, vD.ownBlock = some k → ¬ B ≤ k) : ∃ P : Nat → Prop, Kd.V kS 33 w 0 P v r ∧ ∀ k, P k → k ≠ g ∧ vK.ownBlock ≠ some k ∧ vD.ownBlock ≠ some k ∧ ¬ rb k :=
 ⟨_, R_off (base := 0) h, fun k hk => ⟨by have : B ≤ k := hk; omega, fun e => hK k e hk, fun e => hD k e hk, fun e => by have : B ≤ k := hk; have := hg.2 k e; omega⟩⟩
theorem told_slice {B : Nat} {w : World} {v : Value} {r : List Ses} (h : ToldO B w v r) : ∃ A c, v = .slice A r.length c := by
 obtain ⟨b, hb, ok, h⟩ := h
 exact Kd.R_slice h
theorem mbox_lt {w : World} {base g : Nat} {rb : Nat → Prop} {M : Mdl} {vU vT vK vD : Value} (h : MBox w base g rb M vU vT vK vD) : g < w.heap.size ∧ ∀ k, rb k → k < w.heap.size := by
 have h1 := blk_lt h.1
 obtain ⟨_, h2, PU, PT, PK, PD, _, _, _, _, _, _, _, _, _, _, h3⟩ := h
 exact ⟨h1, fun k hk => by have := (h3 k hk).1; omega⟩
theorem mbox_ownD {w : World} {base g : Nat} {rb : Nat → Prop} {M : Mdl} {vU vT vK vD : Value} (h : MBox w base g rb M vU vT vK vD) : ∀ k, vD.ownBlock = some k → ¬ w.heap.size ≤ k := by
 obtain ⟨_, _, PU, PT, PK, PD, _, _, _, h4, _⟩ := h
 intro k hk
 have := Kd.R_lt h4 k hk
 omega
theorem build_S (w : World) (u e d c : Int) : (Instr.build 33 #[(0, .int .i64 u), (1, .int .i64 e), (2, .int .u64 d), (3, .int .u64 c)]).run Tryz.prog w = .ok (.agg (sca ⟨u, e, d, c, zkey, false, 0, 0⟩)) w := by kernel_rfl
theorem exec_hello {o : Oper} {a : Act} {w : World} {M : Mdl} {x : Ac} (p0 p1 p2 p3 : Operand) (ho : o.op = .build 33 #[(0, p0), (1, p1), (2, p2), (3, p3)]) (h0 : a.eval p0 = .int .i64 x.F.user) (h1 : a.eval p1 = .int .i64 M.epoch) (h2 : a.eval p2 = .int .u64 x.X.draw) (h3 : a.eval p3 = .int .u64 x.F.cn) :
  (execOp a.eval o).run Tryz.prog w = .ok (.value (.agg (sca (helloX M x)))) w := by
 unfold execOp
 simp only [ho, List.map_toArray, List.map_cons, List.map_nil, h0, h1, h2, h3, Sem.run_bind, build_S, Result.andThen_ok, Sem.run_pure, helloX]
set_option maxHeartbeats 4000000 in
theorem hello_0 (M : Mdl) (a : Ac) (vU vT vK vD vA : Value) (w0 w : World) (base g : Nat) (rb : Nat → Prop) (hm : MBox w base g rb M vU vT vK vD) (hB : Below base w0 w) (hb : base ≤ w.heap.size) (hT : M.T.length < 1000000) (t0 : findU M.U a.F.user = -1) :
  Calls Tryz.prog 64 #[.pointer (some ⟨g, 0, none⟩), .agg (aca a vA)] w fun e w' => ∃ vT', e = .returned (.int .i64 (helloM M a).2) ∧ w'.heap[g]? = some (.cells (mca (helloM M a).1 vU vT' vK vD) 42 (0, 0)) ∧ MdO w' rb (helloM M a).1 vU vT' vK vD ∧ Below base w0 w' := by
 have HE := aq_ (show helloM M a = (M, 5) by unfold helloM; rw [if_pos t0])
 have hq : (findU M.U a.F.user == -1) = true := by simpa using t0
 clear t0
 obtain ⟨⟨AU, cU, rfl⟩, ⟨AT, cT, rfl⟩, ⟨AK, cK, rfl⟩, ⟨AD, cD, rfl⟩⟩ := mbox_slices hm
 have MB := aq_ hm
 have HB := aq_ hB
 have LB := aq_ hb
 have TL := aq_ hT
 clear hm hB hb hT
 go_enter Tryz.func64, Tryz.ntmps64
 go_upto_region 1 with ((with_reducible refine box_Ac (.tmp 1) (x := a) (v := vA) rfl rfl rfl ?_); intro ga hg w1 hbox hb; have MB' := aq_ (mbox_below MB.out hb); have AB := aq_ hbox; have HB' := aq_ (HB.out.trans (hb.mono LB.out)); have LB' := aq_ (Nat.le_trans LB.out hb.size); clear hg hbox hb MB HB LB; have MB := MB'; have HB := HB'; have LB := LB'; clear MB' HB' LB')
 replace MB := aq_ (mbox_below MB.out (below_drew (Below.refl _ w1)))
 replace AB := aq_ (blk_drew AB.out)
 replace HB := aq_ (below_drew HB.out)
 replace LB := aq_ (show base ≤ w1.drew.heap.size from LB.out)
 refine start_ (n := 9) (S := fun w' => w'.cell? ⟨g, 0, none⟩ = some (.slice AU M.U.length cU) ∧ w'.cell? ⟨ga, 2, none⟩ = some (.int .i64 a.F.user)) (ds := []) #[false, false, false, false, false, false, false, false, false] (by kernel_rfl) rfl rfl ⟨blk_cell MB.out.1 0, (cellsA_F AB.out).2.1⟩ (fun hHeld => ?_)
 refine pz_ 0 (some 6) (bt_ 9 1) ?_
 refine pz_ 1 (some 7) (bt_ 9 3) ?_
 refine pz_ 2 (some 8) (bt_ 9 7) ?_
 refine pz_ 4 (some 10) (bt_ 9 23) ?_
 refine pz_ 5 (some 11) (bt_ 9 55) ?_
 refine tz_ 3 (some 9) (bt_ 9 63) hHeld ?_
 refine tz_ 6 (some 12) (bt_ 9 127) hHeld ?_
 refine gz_ 7 (some 13) (bt_ 9 255) Tryz.func34 #[.slice AU M.U.length cU, .int .i64 a.F.user] fun K hK => ?_
 with_reducible refine (ufind_any M.U AU cU a.F.user _ (mbox_U MB.out)).mono ?_
 rintro e wq ⟨rfl, hb_⟩
 refine ⟨_, rfl, ?_⟩
 replace MB := aq_ (mbox_below MB.out hb_)
 replace AB := aq_ (blk_below AB.out hb_)
 replace HB := aq_ (HB.out.trans (Below.mono hb_ LB.out))
 replace LB := aq_ (Nat.le_trans LB.out (Below.size hb_))
 clear hb_
 refine hK.out _ _ ⟨blk_cell MB.out.1 0, (cellsA_F AB.out).2.1⟩ (fun hHeld => ?_)
 clear hK K
 refine nz_ ?_
 refine pz_ 8 (some 14) (bt_ 9 511) ?_
 refine done_ (by kernel_rfl) ?_
 go_wp2
 go_ret
 exact ⟨_, by rw [HE.out]; rfl, by rw [HE.out]; exact MB.out.1, by rw [HE.out]; exact mbox_mdo MB.out, HB.out⟩
set_option maxHeartbeats 4000000 in
theorem hello_1 (M : Mdl) (a : Ac) (vU vT vK vD vA : Value) (w0 w : World) (base g : Nat) (rb : Nat → Prop) (hm : MBox w base g rb M vU vT vK vD) (hB : Below base w0 w) (hb : base ≤ w.heap.size) (hT : M.T.length < 1000000) (t0 : ¬ findU M.U a.F.user = -1) (t1 : 4611686018427387904 ≤ a.X.draw) :
  Calls Tryz.prog 64 #[.pointer (some ⟨g, 0, none⟩), .agg (aca a vA)] w fun e w' => ∃ vT', e = .returned (.int .i64 (helloM M a).2) ∧ w'.heap[g]? = some (.cells (mca (helloM M a).1 vU vT' vK vD) 42 (0, 0)) ∧ MdO w' rb (helloM M a).1 vU vT' vK vD ∧ Below base w0 w' := by
 have HE := aq_ (show helloM M a = (M, 1) by unfold helloM; rw [if_neg t0, if_pos (.inl t1)])
 have hq : (findU M.U a.F.user == -1) = false := by simpa using t0
 have hx : (decide (a.X.draw ≥ 4611686018427387904)) = true := by simpa using t1
 clear t0 t1
 obtain ⟨⟨AU, cU, rfl⟩, ⟨AT, cT, rfl⟩, ⟨AK, cK, rfl⟩, ⟨AD, cD, rfl⟩⟩ := mbox_slices hm
 have MB := aq_ hm
 have HB := aq_ hB
 have LB := aq_ hb
 have TL := aq_ hT
 clear hm hB hb hT
 go_enter Tryz.func64, Tryz.ntmps64
 go_upto_region 1 with ((with_reducible refine box_Ac (.tmp 1) (x := a) (v := vA) rfl rfl rfl ?_); intro ga hg w1 hbox hb; have MB' := aq_ (mbox_below MB.out hb); have AB := aq_ hbox; have HB' := aq_ (HB.out.trans (hb.mono LB.out)); have LB' := aq_ (Nat.le_trans LB.out hb.size); clear hg hbox hb MB HB LB; have MB := MB'; have HB := HB'; have LB := LB'; clear MB' HB' LB')
 replace MB := aq_ (mbox_below MB.out (below_drew (Below.refl _ w1)))
 replace AB := aq_ (blk_drew AB.out)
 replace HB := aq_ (below_drew HB.out)
 replace LB := aq_ (show base ≤ w1.drew.heap.size from LB.out)
 refine start_ (n := 9) (S := fun w' => w'.cell? ⟨g, 0, none⟩ = some (.slice AU M.U.length cU) ∧ w'.cell? ⟨ga, 2, none⟩ = some (.int .i64 a.F.user)) (ds := []) #[false, false, false, false, false, false, false, false, false] (by kernel_rfl) rfl rfl ⟨blk_cell MB.out.1 0, (cellsA_F AB.out).2.1⟩ (fun hHeld => ?_)
 refine pz_ 0 (some 6) (bt_ 9 1) ?_
 refine pz_ 1 (some 7) (bt_ 9 3) ?_
 refine pz_ 2 (some 8) (bt_ 9 7) ?_
 refine pz_ 4 (some 10) (bt_ 9 23) ?_
 refine pz_ 5 (some 11) (bt_ 9 55) ?_
 refine tz_ 3 (some 9) (bt_ 9 63) hHeld ?_
 refine tz_ 6 (some 12) (bt_ 9 127) hHeld ?_
 refine gz_ 7 (some 13) (bt_ 9 255) Tryz.func34 #[.slice AU M.U.length cU, .int .i64 a.F.user] fun K hK => ?_
 with_reducible refine (ufind_any M.U AU cU a.F.user _ (mbox_U MB.out)).mono ?_
 rintro e wq ⟨rfl, hb_⟩
 refine ⟨_, rfl, ?_⟩
 replace MB := aq_ (mbox_below MB.out hb_)
 replace AB := aq_ (blk_below AB.out hb_)
 replace HB := aq_ (HB.out.trans (Below.mono hb_ LB.out))
 replace LB := aq_ (Nat.le_trans LB.out (Below.size hb_))
 clear hb_
 refine hK.out _ _ ⟨blk_cell MB.out.1 0, (cellsA_F AB.out).2.1⟩ (fun hHeld => ?_)
 clear hK K
 refine nz_ ?_
 refine pz_ 8 (some 14) (bt_ 9 511) ?_
 refine done_ (by kernel_rfl) ?_
 have c43 := (cellsA_X AB.out).2
 have c4 := (cellsA_F AB.out).2.2.2.1
 go_wp2
 go_ret
 exact ⟨_, by rw [HE.out]; rfl, by rw [HE.out]; exact MB.out.1, by rw [HE.out]; exact mbox_mdo MB.out, HB.out⟩
set_option maxHeartbeats 4000000 in
theorem hello_2 (M : Mdl) (a : Ac) (vU vT vK vD vA : Value) (w0 w : World) (base g : Nat) (rb : Nat → Prop) (hm : MBox w base g rb M vU vT vK vD) (hB : Below base w0 w) (hb : base ≤ w.heap.size) (hT : M.T.length < 1000000) (t0 : ¬ findU M.U a.F.user = -1) (t1 : ¬ 4611686018427387904 ≤ a.X.draw) (t2 : 4611686018427387904 ≤ a.F.cn) :
  Calls Tryz.prog 64 #[.pointer (some ⟨g, 0, none⟩), .agg (aca a vA)] w fun e w' => ∃ vT', e = .returned (.int .i64 (helloM M a).2) ∧ w'.heap[g]? = some (.cells (mca (helloM M a).1 vU vT' vK vD) 42 (0, 0)) ∧ MdO w' rb (helloM M a).1 vU vT' vK vD ∧ Below base w0 w' := by
 have HE := aq_ (show helloM M a = (M, 1) by unfold helloM; rw [if_neg t0, if_pos (.inr t2)])
 have hq : (findU M.U a.F.user == -1) = false := by simpa using t0
 have hx : (decide (a.X.draw ≥ 4611686018427387904)) = false := by simpa using t1
 have hy : (decide (a.F.cn ≥ 4611686018427387904)) = true := by simpa using t2
 clear t0 t1 t2
 obtain ⟨⟨AU, cU, rfl⟩, ⟨AT, cT, rfl⟩, ⟨AK, cK, rfl⟩, ⟨AD, cD, rfl⟩⟩ := mbox_slices hm
 have MB := aq_ hm
 have HB := aq_ hB
 have LB := aq_ hb
 have TL := aq_ hT
 clear hm hB hb hT
 go_enter Tryz.func64, Tryz.ntmps64
 go_upto_region 1 with ((with_reducible refine box_Ac (.tmp 1) (x := a) (v := vA) rfl rfl rfl ?_); intro ga hg w1 hbox hb; have MB' := aq_ (mbox_below MB.out hb); have AB := aq_ hbox; have HB' := aq_ (HB.out.trans (hb.mono LB.out)); have LB' := aq_ (Nat.le_trans LB.out hb.size); clear hg hbox hb MB HB LB; have MB := MB'; have HB := HB'; have LB := LB'; clear MB' HB' LB')
 replace MB := aq_ (mbox_below MB.out (below_drew (Below.refl _ w1)))
 replace AB := aq_ (blk_drew AB.out)
 replace HB := aq_ (below_drew HB.out)
 replace LB := aq_ (show base ≤ w1.drew.heap.size from LB.out)
 refine start_ (n := 9) (S := fun w' => w'.cell? ⟨g, 0, none⟩ = some (.slice AU M.U.length cU) ∧ w'.cell? ⟨ga, 2, none⟩ = some (.int .i64 a.F.user)) (ds := []) #[false, false, false, false, false, false, false, false, false] (by kernel_rfl) rfl rfl ⟨blk_cell MB.out.1 0, (cellsA_F AB.out).2.1⟩ (fun hHeld => ?_)
 refine pz_ 0 (some 6) (bt_ 9 1) ?_
 refine pz_ 1 (some 7) (bt_ 9 3) ?_
 refine pz_ 2 (some 8) (bt_ 9 7) ?_
 refine pz_ 4 (some 10) (bt_ 9 23) ?_
 refine pz_ 5 (some 11) (bt_ 9 55) ?_
 refine tz_ 3 (some 9) (bt_ 9 63) hHeld ?_
 refine tz_ 6 (some 12) (bt_ 9 127) hHeld ?_
 refine gz_ 7 (some 13) (bt_ 9 255) Tryz.func34 #[.slice AU M.U.length cU, .int .i64 a.F.user] fun K hK => ?_
 with_reducible refine (ufind_any M.U AU cU a.F.user _ (mbox_U MB.out)).mono ?_
 rintro e wq ⟨rfl, hb_⟩
 refine ⟨_, rfl, ?_⟩
 replace MB := aq_ (mbox_below MB.out hb_)
 replace AB := aq_ (blk_below AB.out hb_)
 replace HB := aq_ (HB.out.trans (Below.mono hb_ LB.out))
 replace LB := aq_ (Nat.le_trans LB.out (Below.size hb_))
 clear hb_
 refine hK.out _ _ ⟨blk_cell MB.out.1 0, (cellsA_F AB.out).2.1⟩ (fun hHeld => ?_)
 clear hK K
 refine nz_ ?_
 refine pz_ 8 (some 14) (bt_ 9 511) ?_
 refine done_ (by kernel_rfl) ?_
 have c43 := (cellsA_X AB.out).2
 have c4 := (cellsA_F AB.out).2.2.2.1
 go_wp2
 go_ret
 exact ⟨_, by rw [HE.out]; rfl, by rw [HE.out]; exact MB.out.1, by rw [HE.out]; exact mbox_mdo MB.out, HB.out⟩
set_option maxHeartbeats 4000000 in
theorem hello_3 (M : Mdl) (a : Ac) (vU vT vK vD vA : Value) (w0 w : World) (base g : Nat) (rb : Nat → Prop) (hm : MBox w base g rb M vU vT vK vD) (hB : Below base w0 w) (hb : base ≤ w.heap.size) (hT : M.T.length < 1000000) (t0 : ¬ findU M.U a.F.user = -1) (t1 : ¬ 4611686018427387904 ≤ a.X.draw) (t2 : ¬ 4611686018427387904 ≤ a.F.cn) :
  Calls Tryz.prog 64 #[.pointer (some ⟨g, 0, none⟩), .agg (aca a vA)] w fun e w' => ∃ vT', e = .returned (.int .i64 (helloM M a).2) ∧ w'.heap[g]? = some (.cells (mca (helloM M a).1 vU vT' vK vD) 42 (0, 0)) ∧ MdO w' rb (helloM M a).1 vU vT' vK vD ∧ Below base w0 w' := by
 have HE := aq_ (show helloM M a = ({ M with T := (beginS M.T (helloX M a) M.idle M.now).1 }, (beginS M.T (helloX M a) M.idle M.now).2) by unfold helloM; rw [if_neg t0, if_neg (fun h => h.elim t1 t2)])
 have hq : (findU M.U a.F.user == -1) = false := by simpa using t0
 have hx : (decide (a.X.draw ≥ 4611686018427387904)) = false := by simpa using t1
 have hy : (decide (a.F.cn ≥ 4611686018427387904)) = false := by simpa using t2
 clear t0 t1 t2
 obtain ⟨r1, r2, hr⟩ : ∃ r1 r2, beginS M.T (helloX M a) M.idle M.now = (r1, r2) := ⟨_, _, rfl⟩
 rw [hr] at HE
 have TH := aq_ hr
 clear hr
 obtain ⟨⟨AU, cU, rfl⟩, ⟨AT, cT, rfl⟩, ⟨AK, cK, rfl⟩, ⟨AD, cD, rfl⟩⟩ := mbox_slices hm
 have MB := aq_ hm
 have HB := aq_ hB
 have LB := aq_ hb
 have TL := aq_ hT
 clear hm hB hb hT
 go_enter Tryz.func64, Tryz.ntmps64
 go_upto_region 1 with ((with_reducible refine box_Ac (.tmp 1) (x := a) (v := vA) rfl rfl rfl ?_); intro ga hg w1 hbox hb; have MB' := aq_ (mbox_below MB.out hb); have AB := aq_ hbox; have HB' := aq_ (HB.out.trans (hb.mono LB.out)); have LB' := aq_ (Nat.le_trans LB.out hb.size); clear hg hbox hb MB HB LB; have MB := MB'; have HB := HB'; have LB := LB'; clear MB' HB' LB')
 replace MB := aq_ (mbox_below MB.out (below_drew (Below.refl _ w1)))
 replace AB := aq_ (blk_drew AB.out)
 replace HB := aq_ (below_drew HB.out)
 replace LB := aq_ (show base ≤ w1.drew.heap.size from LB.out)
 refine start_ (n := 9) (S := fun w' => w'.cell? ⟨g, 0, none⟩ = some (.slice AU M.U.length cU) ∧ w'.cell? ⟨ga, 2, none⟩ = some (.int .i64 a.F.user)) (ds := []) #[false, false, false, false, false, false, false, false, false] (by kernel_rfl) rfl rfl ⟨blk_cell MB.out.1 0, (cellsA_F AB.out).2.1⟩ (fun hHeld => ?_)
 refine pz_ 0 (some 6) (bt_ 9 1) ?_
 refine pz_ 1 (some 7) (bt_ 9 3) ?_
 refine pz_ 2 (some 8) (bt_ 9 7) ?_
 refine pz_ 4 (some 10) (bt_ 9 23) ?_
 refine pz_ 5 (some 11) (bt_ 9 55) ?_
 refine tz_ 3 (some 9) (bt_ 9 63) hHeld ?_
 refine tz_ 6 (some 12) (bt_ 9 127) hHeld ?_
 refine gz_ 7 (some 13) (bt_ 9 255) Tryz.func34 #[.slice AU M.U.length cU, .int .i64 a.F.user] fun K hK => ?_
 with_reducible refine (ufind_any M.U AU cU a.F.user _ (mbox_U MB.out)).mono ?_
 rintro e wq ⟨rfl, hb_⟩
 refine ⟨_, rfl, ?_⟩
 replace MB := aq_ (mbox_below MB.out hb_)
 replace AB := aq_ (blk_below AB.out hb_)
 replace HB := aq_ (HB.out.trans (Below.mono hb_ LB.out))
 replace LB := aq_ (Nat.le_trans LB.out (Below.size hb_))
 clear hb_
 refine hK.out _ _ ⟨blk_cell MB.out.1 0, (cellsA_F AB.out).2.1⟩ (fun hHeld => ?_)
 clear hK K
 refine nz_ ?_
 refine pz_ 8 (some 14) (bt_ 9 511) ?_
 refine done_ (by kernel_rfl) ?_
 have c43 := (cellsA_X AB.out).2
 have c4 := (cellsA_F AB.out).2.2.2.1
 go_upto_region 6 with (fail)
 clear c43 c4
 replace MB := aq_ (mbox_below MB.out (below_drew (Below.refl _ wq)))
 replace AB := aq_ (blk_drew AB.out)
 replace HB := aq_ (below_drew HB.out)
 replace LB := aq_ (show base ≤ wq.drew.heap.size from LB.out)
 have GL := aq_ (mbox_lt MB.out)
 have GK := aq_ (mbox_own MB.out)
 have GD := aq_ (mbox_ownD MB.out)
 have GB := aq_ MB.out.2.1
 refine start_ (n := 35) (S := fun w' => w'.cell? ⟨g, 2, none⟩ = some (.slice AT M.T.length cT) ∧ w'.cell? ⟨ga, 2, none⟩ = some (.int .i64 a.F.user) ∧ w'.cell? ⟨g, 3, none⟩ = some (.int .i64 M.epoch) ∧ w'.cell? ⟨ga, 43, none⟩ = some (.int .u64 a.X.draw) ∧ w'.cell? ⟨ga, 4, none⟩ = some (.int .u64 a.F.cn) ∧ w'.cell? ⟨g, 1, none⟩ = some (.int .i64 M.idle) ∧ w'.cell? ⟨g, 4, none⟩ = some (.int .i64 M.now)) (ds := [33]) #[false, false, false, false, false, false, false, false, false, false, false, false, false, false, false, false, false, false, false, false, false, false, false, false, false, false, false, false, false, false, false, false, false, false, false] (by kernel_rfl) rfl rfl ⟨blk_cell MB.out.1 2, (cellsA_F AB.out).2.1, blk_cell MB.out.1 3, (cellsA_X AB.out).2, (cellsA_F AB.out).2.2.2.1, blk_cell MB.out.1 1, blk_cell MB.out.1 4⟩ (fun hHeld => ?_)
 refine pz_ 0 (some 26) (bt_ 35 1) ?_
 refine pz_ 1 (some 27) (bt_ 35 3) ?_
 refine pz_ 2 (some 28) (bt_ 35 7) ?_
 refine pz_ 3 (some 29) (bt_ 35 15) ?_
 refine pz_ 5 (some 31) (bt_ 35 47) ?_
 refine pz_ 6 (some 32) (bt_ 35 111) ?_
 refine pz_ 8 (some 34) (bt_ 35 367) ?_
 refine pz_ 9 (some 35) (bt_ 35 879) ?_
 refine pz_ 10 (some 36) (bt_ 35 1903) ?_
 refine pz_ 12 (some 38) (bt_ 35 5999) ?_
 refine pz_ 13 (some 39) (bt_ 35 14191) ?_
 refine pz_ 15 (some 41) (bt_ 35 46959) ?_
 refine pz_ 16 (some 42) (bt_ 35 112495) ?_
 refine pz_ 19 (some 45) (bt_ 35 636783) ?_
 refine pz_ 20 (some 46) (bt_ 35 1685359) ?_
 refine pz_ 21 (some 47) (bt_ 35 3782511) ?_
 refine pz_ 23 (some 49) (bt_ 35 12171119) ?_
 refine pz_ 24 (some 50) (bt_ 35 28948335) ?_
 refine pz_ 25 (some 51) (bt_ 35 62502767) ?_
 refine tz_ 4 (some 30) (bt_ 35 62502783) hHeld ?_
 refine tz_ 7 (some 33) (bt_ 35 62502911) hHeld ?_
 refine tz_ 11 (some 37) (bt_ 35 62504959) hHeld ?_
 refine tz_ 14 (some 40) (bt_ 35 62521343) hHeld ?_
 refine tz_ 17 (some 43) (bt_ 35 62652415) hHeld ?_
 refine pu_ 18 (some 44) ?_ (bt_ 35 62914559) rfl rfl (Or.inl ⟨by rfl, ?_⟩) ?_ ?_ ?_
 rotate_left
 ·intro w'
  rw [exec_hello (M := M) (x := a) (.tmp 33) (.tmp 37) (.tmp 40) (.tmp 43) rfl rfl rfl rfl rfl]
 rotate_left
 ·simp only [pt_]
  rfl
 refine tz_ 22 (some 48) (bt_ 35 67108863) hHeld ?_
 refine tz_ 26 (some 52) (bt_ 35 134217727) hHeld ?_
 refine gz_ 27 (some 53) (bt_ 35 268435455) Tryz.func85 #[.slice AT M.T.length cT, .agg (sca (helloX M a)), .int .i64 M.idle, .int .i64 M.now] fun K hK => ?_
 with_reducible refine (begin_any (helloX M a) M.idle M.now M.T AT cT _ (mbox_T MB.out).1 (mbox_T MB.out).2 TL.out _ _ TH.out).mono ?_
 rintro e wq ⟨vT', rfl, hO_, hb_⟩
 refine ⟨_, rfl, ?_⟩
 obtain ⟨AT1, cT1, rfl⟩ := told_slice hO_
 replace MB := aq_ (mbox_below MB.out hb_)
 replace AB := aq_ (blk_below AB.out hb_)
 replace HB := aq_ (HB.out.trans (Below.mono hb_ LB.out))
 replace LB := aq_ (Nat.le_trans LB.out (Below.size hb_))
 have z2 : wq.frozen? ⟨g, 2, none⟩ = false := blk_frozen MB.out.1 2
 have HO := aq_ (told_base hO_ GL.out GK.out GD.out)
 clear hb_ hO_
 refine hK.out _ _ ⟨blk_cell MB.out.1 2, (cellsA_F AB.out).2.1, blk_cell MB.out.1 3, (cellsA_X AB.out).2, (cellsA_F AB.out).2.2.2.1, blk_cell MB.out.1 1, blk_cell MB.out.1 4⟩ (fun hHeld => ?_)
 clear hK K
 refine nz_ ?_
 refine pz_ 28 (some 25) (bt_ 35 536870911) ?_
 refine pz_ 29 (some 54) (bt_ 35 1073741823) ?_
 refine pz_ 30 (some 55) (bt_ 35 2147483647) ?_
 refine pz_ 31 (some 56) (bt_ 35 4294967295) ?_
 refine pz_ 32 (some 57) (bt_ 35 8589934591) ?_
 refine last_ (i := 33) (N := none) (bt_ 35 17179869183) rfl rfl (by kernel_rfl) (by decide) (fun K hK => ?_)
 refine skip_ (w1 := ?_) (by rfl) rfl ?_ ?_
 rotate_left
 ·go_simp
  rfl
 refine hK.out _ _ ?_
 clear hK K
 refine pz_ 34 (some 5) (bt_ 35 34359738367) ?_
 refine done_ (by kernel_rfl) ?_
 go_wp2
 go_ret
 obtain ⟨P, hV, hP⟩ := HO.out
 have hF := mbox_setT MB.out hV hP
 exact ⟨by rw [HE.out]; rfl, _, by rw [HE.out]; exact hF.1, by rw [HE.out]; exact mbox_mdo hF, HB.out.setCell (p := ⟨g, 2, none⟩) GB.out _⟩
theorem hello_any (M : Mdl) (a : Ac) (vU vT vK vD vA : Value) (w0 w : World) (base g : Nat) (rb : Nat → Prop) (hm : MBox w base g rb M vU vT vK vD) (hB : Below base w0 w) (hb : base ≤ w.heap.size) (hT : M.T.length < 1000000) :
  Calls Tryz.prog 64 #[.pointer (some ⟨g, 0, none⟩), .agg (aca a vA)] w fun e w' => ∃ vT', e = .returned (.int .i64 (helloM M a).2) ∧ w'.heap[g]? = some (.cells (mca (helloM M a).1 vU vT' vK vD) 42 (0, 0)) ∧ MdO w' rb (helloM M a).1 vU vT' vK vD ∧ Below base w0 w' := by
 by_cases t0 : findU M.U a.F.user = -1
 ·exact hello_0 M a vU vT vK vD vA w0 w base g rb hm hB hb hT t0
 by_cases t1 : 4611686018427387904 ≤ a.X.draw
 ·exact hello_1 M a vU vT vK vD vA w0 w base g rb hm hB hb hT t0 t1
 by_cases t2 : 4611686018427387904 ≤ a.F.cn
 ·exact hello_2 M a vU vT vK vD vA w0 w base g rb hm hB hb hT t0 t1 t2
 ·exact hello_3 M a vU vT vK vD vA w0 w base g rb hm hB hb hT t0 t1 t2
theorem wp_scope_goto {P : Program} {a : Act} {w : World} {Q : Exit → Act → World → Prop} {c rest : Code} (l : Nat) (hf : findLabel c l = some rest) (h : c.wp P (Exit.jump l (fun a w => rest.wp P (Exit.noGoto Q) a w) Q) a w) : (Code.scope c).wp P Q a w :=
 wp_scope_jumps l _ (fun _ _ => 0) hf h fun a w hj => Code.wp_mono (fun e a w hq => by cases e <;> first | exact hq | exact hq.elim) hj
def doneM (x : Ses) (f : Frm) : Don := ⟨x.user, x.epoch, x.draw, x.cn, f.count, f.cmd, f.arg⟩
def ranM (M : Mdl) (a : Ac) (x : Ses) (T : List Ses) (e : Int) : Mdl × Int :=
 if e ≠ 0 then ({ M with T := T }, e) else if mayR (roleU M.U x.user) a.F.cmd = false then ({ M with T := T }, 10)
 else if a.F.cmd = 7 ∧ a.F.arg = 0 then ({ M with T := dropS T x.draw, D := M.D ++ [doneM x a.F] }, 0) else ({ M with T := T, D := M.D ++ [doneM x a.F] }, 0)
def foundM (M : Mdl) (a : Ac) (x : Ses) : Mdl × Int :=
 if a.F.kind = 4 ∧ x.isOpen = false then (M, 5)
 else if isP x a.F = false then (M, 7)
 else if sameT (proofT x a.F) a.T = false then (M, 7)
 else if a.F.kind ≠ 4 then ({ M with T := (proveS M.T x.draw M.idle M.now).1 }, (proveS M.T x.draw M.idle M.now).2)
 else ranM M a x (useS M.T x.draw a.F.count M.idle M.now).1 (useS M.T x.draw a.F.count M.idle M.now).2
def provedM (M : Mdl) (a : Ac) : Mdl × Int := if findS M.T a.F.sess = -1 then (M, 5) else foundM M a (M.T.getD (findS M.T a.F.sess).toNat zses)
theorem provedM_at {M : Mdl} {a : Ac} {i : Nat} {x : Ses} (h : findS M.T a.F.sess = i) (hx : M.T[i]? = some x) : provedM M a = foundM M a x := by
 unfold provedM
 rw [h, if_neg (by omega), Int.toNat_natCast, List.getD_eq_getElem?_getD, hx]
 rfl
section
variable {ops : Array Oper} {rest : List Oper} {o : Oper} {a : Act} {w : World} {Q : Exit → Act → World → Prop}
theorem run_allocSe (w : World) : (Instr.alloc 33 true (.tuple #[])).run Tryz.prog w = .ok (.pointer (some ⟨w.heap.size, 0, none⟩)) (w.alloc (.cells (sca zses) 33)) := by kernel_rfl
theorem alloc_Se (ho : o.op = .alloc 33) (hgd : o.guard = none) (h : ∀ g, g = w.heap.size → ∀ w1 : World, w1.heap[g]? = some (.cells (sca zses) 33 (0, 0)) → Below w.heap.size w w1 → w1.heap.size = w.heap.size + 1 → wpList Tryz.prog ops Q rest (a.put o.dst (.pointer (some ⟨g, 0, none⟩))) w1) : wpList Tryz.prog ops Q (o :: rest) a w := by
 refine Kd.event_run hgd (v := .pointer (some ⟨w.heap.size, 0, none⟩)) ?_ (h _ rfl (w.alloc (.cells (sca zses) 33)) (blk_new w _) (below_alloc (Below.refl _ _) _) (size_al _ _))
 unfold execOp
 simp only [ho, Sem.run_bind, run_allocSe, Result.andThen_ok, Sem.run_pure]
theorem store_Se2 (x y : Operand) (ho : o.op = .store 33 x y) (hgd : o.guard = none) (hN : o.dst = none) {g : Nat} {s old : Ses} (hx : a.eval x = .pointer (some ⟨g, 0, none⟩)) (hy : a.eval y = .agg (sca s)) (hg : w.heap[g]? = some (.cells (sca old) 33 (0, 0)))
  (h : ∀ w1 : World, w1.heap[g]? = some (.cells (sca s) 33 (0, 0)) → w1.heap.size = w.heap.size → (∀ B, B ≤ g → Below B w w1) → (∀ k, k ≠ g → w1.heap[k]? = w.heap[k]?) → wpList Tryz.prog ops Q rest a w1) : wpList Tryz.prog ops Q (o :: rest) a w := by
 refine wpList_store_row hgd 33 x y ho g (sca s) hx hy 33 (sca old) hg (by rw [infoS, sca_size]) (by rw [sca_size, sca_size]) ?_ ?_
 ·rw [Array.all_eq_true_iff_forall_mem]
  intro u hu
  exact scl_one s u (by simpa [sca] using hu)
 ·rw [hN]
  refine h _ (setRow_heap _ _ _ _ _ _ hg) (size_setRow _ _ _) (fun B hB => ?_) (fun k hk => setRow_other _ _ _ _ hk)
  have hb := Below.refl B w
  refine ⟨hb.os, hb.tape, hb.output, (by simpa only [size_setRow] using hb.size), fun k hk => ?_⟩
  rw [setRow_other _ _ _ _ (by omega)]
theorem infoTe : (Tryz.prog.info? 36).map (·.size) = some 3 := by kernel_rfl
theorem store_Te2 (x y : Operand) (ho : o.op = .store 36 x y) (hgd : o.guard = none) (hN : o.dst = none) {g : Nat} {f0 f1 : Int} {A : Option Addr} {n c : Nat} {old : Array Value} (hold : old.size = 3) (hx : a.eval x = .pointer (some ⟨g, 0, none⟩)) (hy : a.eval y = .agg #[.int .i64 f0, .int .i64 f1, .slice A n c]) (hg : w.heap[g]? = some (.cells old 36 (0, 0)))
  (h : ∀ w1 : World, w1.heap[g]? = some (.cells #[.int .i64 f0, .int .i64 f1, .slice A n c] 36 (0, 0)) → w1.heap.size = w.heap.size → (∀ B, B ≤ g → Below B w w1) → (∀ k, k ≠ g → w1.heap[k]? = w.heap[k]?) → wpList Tryz.prog ops Q rest a w1) : wpList Tryz.prog ops Q (o :: rest) a w := by
 refine wpList_store_row hgd 36 x y ho g #[.int .i64 f0, .int .i64 f1, .slice A n c] hx hy 36 old hg (by rw [infoTe]; rfl) (by rw [hold]; rfl) ?_ ?_
 ·simp [Value.oneCell']
 ·rw [hN]
  refine h _ (setRow_heap _ _ _ _ _ _ hg) (size_setRow _ _ _) (fun B hB => ?_) (fun k hk => setRow_other _ _ _ _ hk)
  have hb := Below.refl B w
  refine ⟨hb.os, hb.tape, hb.output, (by simpa only [size_setRow] using hb.size), fun k hk => ?_⟩
  rw [setRow_other _ _ _ _ (by omega)]
end
theorem mbox_D {w : World} {base g : Nat} {rb : Nat → Prop} {M : Mdl} {vU vT vK vD : Value} (h : MBox w base g rb M vU vT vK vD) : ∃ PD : Nat → Prop, Kd.R kD 48 w base (fun k => PD k ∨ w.heap.size ≤ k) vD M.D ∧
  ∀ (w5 : World) (vD' : Value) (D' : List Don), w.grownBy w5 vD.ownBlock → Kd.R kD 48 w5 base (fun k => PD k ∨ w.heap.size ≤ k) vD' D' → (vD'.ownBlock = vD.ownBlock ∨ ∃ b, vD'.ownBlock = some b ∧ w.heap.size ≤ b) → MBox (w5.setCell ⟨g, 6, none⟩ vD') base g rb { M with D := D' } vU vT vK vD' := by
 obtain ⟨h0, h00, PU, PT, PK, PD, h1, h2, h3, h4, h5, h6, n1, n2, n3, n4, nr⟩ := h
 refine ⟨PD, Kd.R_mono h4 fun k hk => .inl hk, fun w5 vD' D' hg hR hat => ?_⟩
 have hlt := blk_lt h0
 have hgo : ∀ k, k ≠ g → (w5.setCell ⟨g, 6, none⟩ vD').heap[k]? = w5.heap[k]? := fun k hk => Below.heap_setCell _ _ _ _ hk
 have hw5 : w5.heap[g]? = some (.cells (mca M vU vT vK vD) 42 (0, 0)) := (hg.block g hlt (fun e => n4 (h4.1 g e.symm))).trans h0
 have far : ∀ Q : Nat → Prop, ¬ Q g → (∀ k, vD.ownBlock = some k → ¬ Q k) → ∀ k, (Q k ∧ k < w.heap.size) → k < w.heap.size → (w5.setCell ⟨g, 6, none⟩ vD').heap[k]? = w.heap[k]? := by
  intro Q hq hown k hk hl
  rw [hgo k (fun e => hq (e ▸ hk.1))]
  exact hg.block k hl fun e => hown k e.symm hk.1
 refine ⟨blk_put hw5 6 vD' rfl, h00, fun k => PU k ∧ k < w.heap.size, fun k => PT k ∧ k < w.heap.size, fun k => PK k ∧ k < w.heap.size, fun k => PD k ∨ w.heap.size ≤ k,
  Kd.V_step (Kd.V_bound h1) (far PU n1 fun k hk => (h6 k hk).1), Kd.V_step (Kd.V_bound h2) (far PT n2 fun k hk => (h6 k hk).2.1), Kd.N_step (Kd.N_bound h3) (far PK n3 fun k hk => (h6 k hk).2.2), ?_, fun k hk => ?_, fun k hk => ?_, fun hp => n1 hp.1, fun hp => n2 hp.1, fun hp => n3 hp.1, fun hp => hp.elim n4 (by omega), fun k hk => ⟨(nr k hk).1, fun h => (nr k hk).2.1 h.1, fun h => (nr k hk).2.2.1 h.1, fun h => (nr k hk).2.2.2.1 h.1, fun hp => hp.elim (nr k hk).2.2.2.2 (by have := (nr k hk).1; omega)⟩⟩
 ·exact Kd.R_step hR fun k hk _ => hgo k fun e => hk.elim (fun h => n4 (e ▸ h)) (fun h => by omega)
 ·have := Kd.N_lt h3 k hk
  exact ⟨fun hp => (h5 k hk).1 hp.1, fun hp => (h5 k hk).2.1 hp.1, fun hp => hp.elim (h5 k hk).2.2 (by omega)⟩
 ·rcases hat with e | ⟨b, e, hb⟩
  ·rw [e] at hk
   exact ⟨fun hp => (h6 k hk).1 hp.1, fun hp => (h6 k hk).2.1 hp.1, fun hp => (h6 k hk).2.2 hp.1⟩
  ·rw [e] at hk
   have hk : b = k := Option.some.inj hk
   subst hk
   exact ⟨fun hp => by omega, fun hp => by omega, fun hp => by omega⟩
theorem mbox_offD {w : World} {base g : Nat} {rb : Nat → Prop} {M : Mdl} {vU vT vK vD : Value} (h : MBox w base g rb M vU vT vK vD) : vD.ownBlock ≠ some g := by
 obtain ⟨h0, h00, PU, PT, PK, PD, h1, h2, h3, h4, h5, h6, n1, n2, n3, n4, nr⟩ := h
 exact fun e => n4 (h4.1 g e)
theorem sameT_any (p t : S24) (A1 A2 : Option Addr) (c1 c2 : Nat) (w : World) (h1 : Kd.C k24 w A1 p.f2.length p.f2) (h1' : p.f2.length ≤ c1) (h2 : Kd.C k24 w A2 t.f2.length t.f2) (h2' : t.f2.length ≤ c2) :
  Calls Tryz.prog 80 #[.agg #[.int .i64 p.f0, .int .i64 p.f1, .slice A1 p.f2.length c1], .agg #[.int .i64 t.f0, .int .i64 t.f1, .slice A2 t.f2.length c2]] w fun e w' => e = .returned (.bool (sameT p t)) ∧ Below w.heap.size w w' := by
 obtain ⟨p0, p1, p2⟩ := p
 obtain ⟨t0, t1, t2⟩ := t
 exact term_Same.calls p0 p1 A1 c1 p2 t0 t1 A2 c2 t2 _ w h1 h1' h2 h2' rfl
theorem open_S {w : World} {ad : Addr} {l : List Ses} (h : kS.C w (some ad) l.length l) {i : Nat} (hi : i < l.length) {x : Ses} (hx : l[i]? = some x) : w.cell? ⟨(ad.add (i * 39)).block, (ad.add (i * 39)).off + 36, none⟩ = some (.bool x.isOpen) := by
 obtain ⟨ad', e, _, _, _, _, _, h36, _⟩ := at_S h i hi x hx
 cases e
 exact h36
theorem row_S {w : World} {ad : Addr} {l : List Ses} (h : kS.C w (some ad) l.length l) {i : Nat} (hi : i < l.length) {x : Ses} (hx : l[i]? = some x) : ∀ j v, (scl x)[j]? = some v → w.cell? ((ad.add (i * 39)).add j) = some v := by
 obtain ⟨ad', e, h0, _⟩ := at_S h i hi x hx
 cases e
 exact h0
theorem some_S {w : World} {A : Option Addr} {l : List Ses} (h : kS.C w A l.length l) {i : Nat} (hi : i < l.length) {x : Ses} (hx : l[i]? = some x) : ∃ ad, A = some ad := by
 obtain ⟨ad, e, _⟩ := at_S h i hi x hx
 exact ⟨ad, e⟩
end Go.Proofs.YtdinphnljokigaaGreat.P
end
