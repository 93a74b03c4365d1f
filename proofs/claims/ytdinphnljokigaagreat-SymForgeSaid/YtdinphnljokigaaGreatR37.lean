/- What LawSymForge rests on, part 37: several texts put together. -/
import Derived.Test.YtdinphnljokigaaGreatR36
import Derived.Test.YtdinphnljokigaaGreatR2
set_option linter.unusedVariables false
set_option linter.unnecessarySimpa false
set_option linter.unusedSimpArgs false
set_option maxRecDepth 100000
section
namespace Go.Proofs.YtdinphnljokigaaGreat.P
open Go.RowKit Go.Lib Go.Proofs.YtdinphnljokigaaGreatW.PrintWords Go.Proofs.YtdinphnljokigaaGreatW.PrintLast Go.Proofs.YtdinphnljokigaaGreatW.PrintMore
theorem usr_told (W : World) (x : Usr) {A : Option Addr} {c : Nat} (hl : x.key.length ≤ c) (hC : (Kd.int .u8).C W A x.key.length x.key) : Told kU (W.alloc (.cells #[.int .i64 x.no, .int .i64 x.role, .slice A x.key.length c] 67)) (.slice (some ⟨W.heap.size, 0, none⟩) 1 1) [x] := by
 have hb : Below W.heap.size W (W.alloc (.cells #[.int .i64 x.no, .int .i64 x.role, .slice A x.key.length c] 67)) := below_alloc (Below.refl _ _) _
 have hg := blk_new W (.cells #[.int .i64 x.no, .int .i64 x.role, .slice A x.key.length c] 67)
 refine ⟨_, _, rfl, Nat.le_refl _, rfl, by simp, fun _ => ⟨_, rfl, fun j p hj => ?_⟩⟩
 have hc' : ∀ i, (W.alloc (.cells #[.int .i64 x.no, .int .i64 x.role, .slice A x.key.length c] 67)).cell? ((⟨W.heap.size, 0, none⟩ : Addr).add i) = #[.int .i64 x.no, .int .i64 x.role, .slice A x.key.length c][i]? := fun i => by
  rw [add_plain]
  exact blk_cell hg i
 rcases j with _ | j
 ·simp only [List.getElem?_cons_zero, Option.some.injEq] at hj
  subst hj
  refine ⟨_, rfl, kU_mk _ x hl (Kd.C_below hC hb), fun i v hu => ?_⟩
  rw [hc', Nat.zero_mul, Nat.zero_add]
  rcases i with _ | _ | _ | i
  all_goals first | (simp at hu; done) | exact hu
 ·simp at hj
theorem told_nil {w : World} {α : Type} {d : Kd α} : Told d w (.slice none 0 0) ([] : List α) := ⟨none, 0, rfl, Nat.le_refl _, Kd.C_nil _ _⟩
theorem start_1 (ad : Addr) (c : Nat) (w : World) : Calls Tryz.prog 10 #[.slice (some ad) 1 c, .slice none 0 0, .int .i64 9] w fun e w' => e = .returned (.agg (mca (startM wU 9) (.slice (some ad) wU.length c) (.slice none 0 0) (.slice none 0 0) (.slice none 0 0))) ∧ Below w.heap.size w w' := start_nil wU (some ad) c 9 w
theorem start_md {w : World} {ad : Addr} {c : Nat} (h : Told kU w (.slice (some ad) 1 c) wU) : MdO w (fun _ => False) (startM wU 9) (.slice (some ad) wU.length c) (.slice none 0 0) (.slice none 0 0) (.slice none 0 0) :=
 mdO_of (w := w) ⟨h, told_nil, told_nil, told_nil⟩ (Below.refl _ _) fun _ h => h.elim
theorem no_q {w : World} : ∀ k, (fun _ : Nat => False) k → k < w.heap.size := fun _ h => h.elim
theorem mdO_set {w w' : World} {g : Nat} {M : Mdl} {vU vT vK vD : Value} (h : MdO w (fun k => k = g) M vU vT vK vD) (hf : ∀ k, k ≠ g → w'.heap[k]? = w.heap[k]?) : MdO w' (fun k => k = g) M vU vT vK vD :=
 ⟨Kd.V_step h.1 fun k hk _ => hf k hk, Kd.V_step h.2.1 fun k hk _ => hf k hk, Kd.V_step h.2.2.1 fun k hk _ => hf k hk, Kd.V_step h.2.2.2 fun k hk _ => hf k hk⟩
theorem wU_small (M : Mdl) (hU : M.U = wU) (hT : M.T.length < 1000000) (hK : M.K = []) (hD : M.D.length < 1000000) : smallM M := by
 refine ⟨⟨by rw [hU]; decide, hT, by rw [hK]; decide, hD⟩, ?_, by rw [hK]; simp⟩
 rw [hU]
 intro u hu
 simp only [wU, List.mem_singleton] at hu
 subst hu
 decide
theorem one_S {w : World} {A : Option Addr} {x : Ses} (h : kS.C w A 1 [x]) : ∃ ad, A = some ad ∧ ∀ j v, (scl x)[j]? = some v → w.cell? (ad.add j) = some v := by
 obtain ⟨ad, e, hc, _⟩ := at_S h 0 (by omega) x rfl
 refine ⟨ad, e, fun j v hv => ?_⟩
 have h0 : ad.add (0 * 39) = ad := by simp [Addr.add]
 have := hc j v hv
 rw [h0] at this
 exact this
theorem wx_wf : wfS wx := by unfold wfS; decide
theorem wF1_wf : wfF wF1 := by unfold wfF; decide
theorem wF2_wf : wfF wF2 := by unfold wfF; decide
theorem wC_wf : wfF wC := by unfold wfF; decide
def wantA (M : Mdl) (a : Ac) : Prop := smallM M ∧ wfS a.X ∧ wfF a.F ∧ ∀ x ∈ M.T, wfS x
theorem wf_1 : wantA (startM wU 9) wA1 := ⟨wU_small _ rfl (by decide) rfl (by decide), by unfold wfS; decide, wF1_wf, by simp [startM]⟩
theorem wf_2 : wantA wM1 wA2 := by
 refine ⟨wU_small _ rfl (by decide) rfl (by decide), by unfold wfS; decide, wF2_wf, fun x hx => ?_⟩
 obtain rfl : x = wx := by simpa [wM1] using hx
 exact wx_wf
theorem wf_3 : wantA wM2 wA3 := by
 refine ⟨wU_small _ rfl (by decide) rfl (by decide), by unfold wfS; decide, wC_wf, fun x hx => ?_⟩
 obtain rfl : x = { wx with isOpen := true } := by simpa [wM2] using hx
 unfold wfS
 decide
theorem wf_4 : wantA wM2 wA4 := ⟨wU_small _ rfl (by decide) rfl (by decide), by unfold wfS; decide, wC_wf, wf_3.2.2.2⟩
theorem one_D {w : World} {A : Option Addr} {x : Don} (h : kD.C w A 1 [x]) : ∃ ad, A = some ad ∧ w.cell? ⟨ad.block, ad.off + 5, none⟩ = some (.int .i64 x.cmd) := by
 obtain ⟨ad, e, _, _, _, _, _, h5, _⟩ := at_D h 0 (by omega) x rfl
 refine ⟨ad, e, ?_⟩
 have h0 : ad.add (0 * 7) = ad := by simp [Addr.add]
 rw [h0] at h5
 exact h5
theorem keep_off {w : World} {g n : Nat} {v : Value} {l : List S24} (h : Kd.V k24 36 w n (fun j => n ≤ j) v l) (hg : g < n) : Kd.V k24 36 w n (fun j => j ≠ g) v l := Kd.V_mono h fun k hk e => by omega
theorem wproof_2 (w : World) : Calls Tryz.prog 18 #[.agg (sca wx), .agg (fca wF2)] w fun e w' => ∃ v2, e = .returned (.tuple #[.agg #[.int .i64 (proofT wx wF2).f0, .int .i64 (proofT wx wF2).f1, v2], .bool true]) ∧ Kd.V k24 36 w' w.heap.size (fun j => w.heap.size ≤ j) v2 (proofT wx wF2).f2 ∧ Below w.heap.size w w' := by
 have := proof_any wx wF2 w wx_wf wF2_wf
 rw [aw_p] at this
 exact this
theorem wproof_4 (w : World) : Calls Tryz.prog 18 #[.agg (sca wx), .agg (fca wC)] w fun e w' => ∃ v2, e = .returned (.tuple #[.agg #[.int .i64 (proofT wx wC).f0, .int .i64 (proofT wx wC).f1, v2], .bool true]) ∧ Kd.V k24 36 w' w.heap.size (fun j => w.heap.size ≤ j) v2 (proofT wx wC).f2 ∧ Below w.heap.size w w' := by
 have := proof_any wx wC w wx_wf wC_wf
 rw [aw_c] at this
 exact this
theorem key_w (w : World) : Calls Tryz.prog 21 #[.agg (sca wx)] w fun e w' => ∃ v2, e = .returned (.tuple #[.agg #[.int .i64 (keyT wx).f0, .int .i64 (keyT wx).f1, v2], .bool true]) ∧ Kd.V k24 36 w' w.heap.size (fun j => w.heap.size ≤ j) v2 (keyT wx).f2 ∧ Below w.heap.size w w' := by
 have := key_any wx w (by decide) (by decide)
 rw [aw_k] at this
 exact this
theorem may_w3 (vU vT vK vD : Value) (w : World) (hm : MdC w wM3 vU vT vK vD) : Calls Tryz.prog 22 #[.agg (mca wM3 vU vT vK vD)] w fun e w' => e = .returned (.bool true) ∧ Below w.heap.size w w' := by
 have := mayM_any wM3 vU vT vK vD w hm
 rw [aw_m] at this
 exact this
theorem same_w3 (vU vT vK vD : Value) (w : World) (hm : MdC w wM3 vU vT vK vD) : Calls Tryz.prog 23 #[.agg (mca wM3 vU vT vK vD), .agg (mca wM3 vU vT vK vD)] w fun e w' => e = .returned (.bool true) ∧ Below w.heap.size w w' := by
 have := sameM_any wM3 wM3 vU vT vK vD vU vT vK vD w hm hm
 rw [show sameM wM3 wM3 = true by decide +kernel] at this
 exact this
section
variable {ops : Array Oper} {rest : List Oper} {o : Oper} {a : Act} {w : World} {Q : Exit → Act → World → Prop}
theorem bF13 (w : World) (u c : Int) : (Instr.build 31 #[(1, .int .i64 u), (3, .int .u64 c)]).run Tryz.prog w = .ok (.agg (fca ⟨0, u, 0, c, 0, 0, 0, 0, zkey⟩)) w := by kernel_rfl
theorem build_F13 (x y : Operand) (ho : o.op = .build 31 #[(1, x), (3, y)]) (hgd : o.guard = none) {u c : Int} (hx : a.eval x = .int .i64 u) (hy : a.eval y = .int .u64 c) (h : wpList Tryz.prog ops Q rest (a.put o.dst (.agg (fca ⟨0, u, 0, c, 0, 0, 0, 0, zkey⟩))) w) : wpList Tryz.prog ops Q (o :: rest) a w := by
 refine Kd.event_run hgd (v := .agg (fca ⟨0, u, 0, c, 0, 0, 0, 0, zkey⟩)) ?_ h
 unfold execOp
 simp only [ho, List.map_toArray, List.map_cons, List.map_nil, hx, hy, Sem.run_bind, bF13, Result.andThen_ok, Sem.run_pure]
theorem bF02 (w : World) : (Instr.build 31 #[(0, .int .i64 2), (2, .int .u64 8)]).run Tryz.prog w = .ok (.agg (fca wF2)) w := by kernel_rfl
theorem build_F02 (x y : Operand) (ho : o.op = .build 31 #[(0, x), (2, y)]) (hgd : o.guard = none) (hx : a.eval x = .int .i64 2) (hy : a.eval y = .int .u64 8) (h : wpList Tryz.prog ops Q rest (a.put o.dst (.agg (fca wF2))) w) : wpList Tryz.prog ops Q (o :: rest) a w := by
 refine Kd.event_run hgd (v := .agg (fca wF2)) ?_ h
 unfold execOp
 simp only [ho, List.map_toArray, List.map_cons, List.map_nil, hx, hy, Sem.run_bind, bF02, Result.andThen_ok, Sem.run_pure]
theorem bF4 (w : World) : (Instr.build 31 #[(0, .int .i64 4), (2, .int .u64 8), (5, .int .u64 1), (6, .int .i64 5)]).run Tryz.prog w = .ok (.agg (fca wC)) w := by kernel_rfl
theorem build_F4 (x y z u : Operand) (ho : o.op = .build 31 #[(0, x), (2, y), (5, z), (6, u)]) (hgd : o.guard = none) (hx : a.eval x = .int .i64 4) (hy : a.eval y = .int .u64 8) (hz : a.eval z = .int .u64 1) (hu : a.eval u = .int .i64 5) (h : wpList Tryz.prog ops Q rest (a.put o.dst (.agg (fca wC))) w) : wpList Tryz.prog ops Q (o :: rest) a w := by
 refine Kd.event_run hgd (v := .agg (fca wC)) ?_ h
 unfold execOp
 simp only [ho, List.map_toArray, List.map_cons, List.map_nil, hx, hy, hz, hu, Sem.run_bind, bF4, Result.andThen_ok, Sem.run_pure]
theorem bS2 (w : World) (d : Int) : (Instr.build 33 #[(2, .int .u64 d)]).run Tryz.prog w = .ok (.agg (sca ⟨0, 0, d, 0, zkey, false, 0, 0⟩)) w := by kernel_rfl
theorem build_S2 (x : Operand) (ho : o.op = .build 33 #[(2, x)]) (hgd : o.guard = none) {d : Int} (hx : a.eval x = .int .u64 d) (h : wpList Tryz.prog ops Q rest (a.put o.dst (.agg (sca ⟨0, 0, d, 0, zkey, false, 0, 0⟩))) w) : wpList Tryz.prog ops Q (o :: rest) a w := by
 refine Kd.event_run hgd (v := .agg (sca ⟨0, 0, d, 0, zkey, false, 0, 0⟩)) ?_ h
 unfold execOp
 simp only [ho, List.map_toArray, List.map_cons, List.map_nil, hx, Sem.run_bind, bS2, Result.andThen_ok, Sem.run_pure]
theorem bA1 (w : World) : (Instr.build 38 #[(0, .int .i64 1), (1, .agg (fca wF1)), (2, .agg (sca wX1))]).run Tryz.prog w = .ok (.agg (aca wA1 (.slice none 0 0))) w := by kernel_rfl
theorem build_A012 (x y z : Operand) (ho : o.op = .build 38 #[(0, x), (1, y), (2, z)]) (hgd : o.guard = none) (hx : a.eval x = .int .i64 1) (hy : a.eval y = .agg (fca wF1)) (hz : a.eval z = .agg (sca wX1)) (h : wpList Tryz.prog ops Q rest (a.put o.dst (.agg (aca wA1 (.slice none 0 0)))) w) : wpList Tryz.prog ops Q (o :: rest) a w := by
 refine Kd.event_run hgd (v := .agg (aca wA1 (.slice none 0 0))) ?_ h
 unfold execOp
 simp only [ho, List.map_toArray, List.map_cons, List.map_nil, hx, hy, hz, Sem.run_bind, bA1, Result.andThen_ok, Sem.run_pure]
theorem bA2 (w : World) (t : S24) (v : Value) : (Instr.build 38 #[(0, .int .i64 1), (1, .agg (fca wF2)), (3, .agg #[.int .i64 t.f0, .int .i64 t.f1, v])]).run Tryz.prog w = .ok (.agg (aca ⟨1, wF2, zses, t⟩ v)) w := by kernel_rfl
theorem build_A2 (x y z : Operand) (ho : o.op = .build 38 #[(0, x), (1, y), (3, z)]) (hgd : o.guard = none) (t : S24) {v : Value} (hx : a.eval x = .int .i64 1) (hy : a.eval y = .agg (fca wF2)) (hz : a.eval z = .agg #[.int .i64 t.f0, .int .i64 t.f1, v]) (h : wpList Tryz.prog ops Q rest (a.put o.dst (.agg (aca ⟨1, wF2, zses, t⟩ v))) w) : wpList Tryz.prog ops Q (o :: rest) a w := by
 refine Kd.event_run hgd (v := .agg (aca ⟨1, wF2, zses, t⟩ v)) ?_ h
 unfold execOp
 simp only [ho, List.map_toArray, List.map_cons, List.map_nil, hx, hy, hz, Sem.run_bind, bA2, Result.andThen_ok, Sem.run_pure]
theorem bA3 (w : World) (t : S24) (v : Value) : (Instr.build 38 #[(0, .int .i64 1), (1, .agg (fca wC)), (3, .agg #[.int .i64 t.f0, .int .i64 t.f1, v])]).run Tryz.prog w = .ok (.agg (aca ⟨1, wC, zses, t⟩ v)) w := by kernel_rfl
theorem build_A3 (x y z : Operand) (ho : o.op = .build 38 #[(0, x), (1, y), (3, z)]) (hgd : o.guard = none) (t : S24) {v : Value} (hx : a.eval x = .int .i64 1) (hy : a.eval y = .agg (fca wC)) (hz : a.eval z = .agg #[.int .i64 t.f0, .int .i64 t.f1, v]) (h : wpList Tryz.prog ops Q rest (a.put o.dst (.agg (aca ⟨1, wC, zses, t⟩ v))) w) : wpList Tryz.prog ops Q (o :: rest) a w := by
 refine Kd.event_run hgd (v := .agg (aca ⟨1, wC, zses, t⟩ v)) ?_ h
 unfold execOp
 simp only [ho, List.map_toArray, List.map_cons, List.map_nil, hx, hy, hz, Sem.run_bind, bA3, Result.andThen_ok, Sem.run_pure]
end
theorem step_atF (M : Mdl) (a : Ac) (vU vT vK vD vA : Value) {M' : Mdl} {n : Int} (h : stepM M a = (M', n)) (w : World) (rq : Nat → Prop) (hq : ∀ k, rq k → k < w.heap.size) (hm : MdO w rq M vU vT vK vD) (hw : wantA M a) (_h : mayM M = true ∧ a.kind = 1) (hA : Told k24 w vA a.T.f2) :
  Calls Tryz.prog 12 #[.agg (mca M vU vT vK vD), .agg (aca a vA)] w fun e w' => ∃ vU' vT' vK' vD', e = .returned (.tuple #[.agg (mca M' vU' vT' vK' vD'), .int .i64 n]) ∧ MdO w' rq M' vU' vT' vK' vD' ∧ Below w.heap.size w w' := by
 have := step_2 M a vU vT vK vD vA w rq hq hm hw.1 hw.2.1 hw.2.2.1 hw.2.2.2 hA _h.1 _h.2
 rw [h] at this
 exact this
theorem may_1F : mayM (startM wU 9) = true ∧ wA1.kind = 1 := by constructor <;> kernel_rfl
theorem wstepF_2 (vU vT vK vD vA : Value) (w : World) (rq : Nat → Prop) (hq : ∀ k, rq k → k < w.heap.size) (hm : MdO w rq wM1 vU vT vK vD) (hA : Told k24 w vA (proofT wx wF2).f2) :
  Calls Tryz.prog 12 #[.agg (mca wM1 vU vT vK vD), .agg (aca ⟨1, wF2, zses, proofT wx wF2⟩ vA)] w fun e w' => ∃ vU' vT' vK' vD', e = .returned (.tuple #[.agg (mca wM2 vU' vT' vK' vD'), .int .i64 0]) ∧ MdO w' rq wM2 vU' vT' vK' vD' ∧ Below w.heap.size w w' := step_atF wM1 wA2 vU vT vK vD vA aw_2 w rq hq hm wf_2 (by constructor <;> kernel_rfl) hA
theorem wstepF_3 (vU vT vK vD vA : Value) (w : World) (rq : Nat → Prop) (hq : ∀ k, rq k → k < w.heap.size) (hm : MdO w rq wM2 vU vT vK vD) (hA : Told k24 w vA (proofT wx wF2).f2) :
  Calls Tryz.prog 12 #[.agg (mca wM2 vU vT vK vD), .agg (aca ⟨1, wC, zses, proofT wx wF2⟩ vA)] w fun e w' => ∃ vU' vT' vK' vD', e = .returned (.tuple #[.agg (mca wM2 vU' vT' vK' vD'), .int .i64 7]) ∧ MdO w' rq wM2 vU' vT' vK' vD' ∧ Below w.heap.size w w' := step_atF wM2 wA3 vU vT vK vD vA aw_3 w rq hq hm wf_3 (by constructor <;> kernel_rfl) hA
theorem wstepF_4 (vU vT vK vD vA : Value) (w : World) (rq : Nat → Prop) (hq : ∀ k, rq k → k < w.heap.size) (hm : MdO w rq wM2 vU vT vK vD) (hA : Told k24 w vA (proofT wx wC).f2) :
  Calls Tryz.prog 12 #[.agg (mca wM2 vU vT vK vD), .agg (aca ⟨1, wC, zses, proofT wx wC⟩ vA)] w fun e w' => ∃ vU' vT' vK' vD', e = .returned (.tuple #[.agg (mca wM3 vU' vT' vK' vD'), .int .i64 0]) ∧ MdO w' rq wM3 vU' vT' vK' vD' ∧ Below w.heap.size w w' := step_atF wM2 wA4 vU vT vK vD vA aw_4 w rq hq hm wf_4 (by constructor <;> kernel_rfl) hA
set_option maxHeartbeats 8000000 in
theorem awakeF_any (w : World) : Calls Tryz.prog 6 #[] w fun e w' => e = .returned (.bool true) ∧ Below w.heap.size w w' := by
 go_enter Tryz.func6, Tryz.ntmps6
 go_upto_region 2 with (first
  | ((go_at_call 20; (with_reducible refine (key16_any 1 _).mono ?_)); rintro e w1 ⟨v, rfl, hk, hb⟩; obtain ⟨Ak, ck, rfl, hck, hCk⟩ := Kd.R_reads hk; have HB := aq_ hb; have HK := aq_ hCk; have HCK := aq_ hck; clear hk hb hck hCk))
 have HU := aq_ (usr_told _ ⟨3, 2, List.replicate 16 1⟩ HCK.out HK.out)
 have LB := aq_ (Nat.le_of_lt (Nat.lt_of_le_of_lt HB.out.size (lt_al w1 (.cells #[.int .i64 3, .int .i64 2, .slice Ak (List.replicate 16 (1 : Int)).length ck] 67))))
 have HB' := aq_ (below_alloc HB.out (.cells #[.int .i64 3, .int .i64 2, .slice Ak (List.replicate 16 (1 : Int)).length ck] 67))
 clear HB HK HCK
 have HB := HB'
 clear HB'
 go_upto_region 3 with (first
  | ((go_at_call 10; (with_reducible refine (start_1 _ 1 _).mono ?_)); rintro e w2 ⟨rfl, hb⟩; have HM0 := aq_ (start_md (told_belowG HU.out hb)); replace HB := aq_ (HB.out.trans (Below.mono hb LB.out)); replace LB := aq_ (Nat.le_trans LB.out (Below.size hb)); clear hb HU)
  | ((with_reducible refine build_F13 (.const (.int .i64 3)) (.const (.int .u64 5)) rfl rfl rfl rfl ?_))
  | ((with_reducible refine build_S2 (.const (.int .u64 8)) rfl rfl rfl ?_))
  | ((with_reducible refine build_A012 (.const (.int .i64 1)) (.tmp 22) (.tmp 23) rfl rfl rfl rfl rfl ?_))
  | ((go_at_call 12; (with_reducible refine (step_atF (startM wU 9) wA1 (.slice (some ⟨w1.heap.size, 0, none⟩) wU.length 1) (.slice none 0 0) (.slice none 0 0) (.slice none 0 0) (.slice none 0 0) aw_1 _ (fun _ => False) no_q HM0.out wf_1 may_1F told_nil).mono ?_)); rintro e w6 ⟨vU', vT', vK', vD', rfl, hO, hb⟩; obtain ⟨⟨U1, cU1, rfl⟩, ⟨T1, cT1, rfl⟩, ⟨K1, cK1, rfl⟩, ⟨D1, cD1, rfl⟩⟩ := mdO_slices hO; replace HB := aq_ (HB.out.trans (Below.mono hb LB.out)); replace LB := aq_ (Nat.le_trans LB.out (Below.size hb)); have HO := aq_ hO; clear hO; clear hb)
  | ((with_reducible refine alloc_Mo rfl rfl ?_); intro g2_ hgt w8 hbox hb; have MB_ := aq_ (mdO_of (r := fun k => k = g2_) (mdO_told HO.out) hb (fun k hk => by omega)); have G2G0 := LB.out; replace HB := aq_ (HB.out.trans (Below.mono hb LB.out)); replace LB := aq_ (Nat.le_trans LB.out (Below.size hb)); have G2G := aq_ (show w.heap.size ≤ g2_ by omega); have G2L := aq_ (blk_lt hbox); have TB := aq_ hbox; clear hgt hbox hb HO G2G0)
  | ((with_reducible refine store_Mo (.tmp 2) (.tmp 26) rfl rfl rfl rfl rfl rfl rfl rfl rfl rfl TB.out ?_); intro w9 hx1 hs1 hb1 hf1; replace HB := aq_ (hb1 _ _ (G2G.out) HB.out); replace LB := aq_ (Nat.le_trans LB.out (Nat.le_of_eq hs1.symm)); replace G2L := aq_ (Nat.lt_of_lt_of_le G2L.out (Nat.le_of_eq hs1.symm)); have M_ := aq_ (mdO_set MB_.out hf1); have S2 := aq_ hx1; clear hx1 hs1 hb1 hf1 TB MB_))
 have k2 : w9.cell? ⟨g2_, 2, none⟩ = some (.slice T1 1 cT1) := blk_cell S2.out 2
 obtain ⟨ad, hT1, hcS⟩ := one_S (told_C' (mdO_told M_.out).2.1).2.2
 subst hT1
 go_upto_region 5 with (first
  | fail)
 go_upto_region 6 with (first
  | ((with_reducible refine load_S (.tmp 34) rfl rfl (p := ad) rfl hcS ?_); clear k2 hcS)
  | ((with_reducible refine alloc_Se rfl rfl ?_); intro g4 hgt w8 hbox hb hs_; have ALB := aq_ hb; have N4 := aq_ (show g2_ < g4 by have h_ := G2L.out; omega); have ALG := aq_ hgt; have TB := aq_ hbox; clear hgt hbox hb hs_)
  | ((with_reducible refine store_Se2 (.tmp 4) (.tmp 35) rfl rfl rfl rfl rfl TB.out ?_); intro w9 hx1 hs1 hb1 hf1; have hbt := ALB.out.trans (hb1 _ (Nat.le_of_eq ALG.out.symm)); replace HB := aq_ (HB.out.trans (Below.mono hbt LB.out)); replace LB := aq_ (Nat.le_trans LB.out (Below.size hbt)); replace S2 := aq_ (blk_below S2.out hbt); replace M_ := aq_ (mdO_below M_.out hbt); replace G2L := aq_ (Nat.lt_of_lt_of_le G2L.out (Below.size hbt)); have S4 := aq_ hx1; clear hx1 hs1 hb1 hf1 hbt ALB ALG TB))
 go_upto_region 7 with (first
  | (with_reducible refine load_S (.tmp 4) rfl rfl (p := ⟨g4, 0, none⟩) rfl (cells_box S4.out) ?_)
  | (with_reducible refine build_F02 (.const (.int .i64 2)) (.const (.int .u64 8)) rfl rfl rfl rfl ?_)
  | ((go_at_call 18; (with_reducible refine (wproof_2 _).mono ?_)); rintro e w7 ⟨vp, rfl, hV0, hb⟩; have hV := keep_off hV0 G2L.out; clear hV0; obtain ⟨A5, c5, rfl⟩ := Kd.V_slice hV; replace HB := aq_ (HB.out.trans (Below.mono hb LB.out)); replace LB := aq_ (Nat.le_trans LB.out (Below.size hb)); replace S2 := aq_ (blk_below S2.out hb); replace S4 := aq_ (blk_below S4.out hb); replace M_ := aq_ (mdO_below M_.out hb); replace G2L := aq_ (Nat.lt_of_lt_of_le G2L.out (Below.size hb)); have V5 := aq_ (V_base (b' := 0) hV); clear hb hV)
  | ((with_reducible refine alloc_Te rfl rfl ?_); intro g5 hgt w8 hbox hb; have ALB := aq_ hb; have N5 := aq_ (show g2_ < g5 by have h_ := G2L.out; omega); have ALG := aq_ hgt; have TB := aq_ hbox; clear hgt hbox hb)
  | ((with_reducible refine store_Te2 (.tmp 5) (.tmp 40) rfl rfl rfl rfl rfl rfl TB.out ?_); intro w9 hx1 hs1 hb1 hf1; have hbt := ALB.out.trans (hb1 _ (Nat.le_of_eq ALG.out.symm)); replace HB := aq_ (HB.out.trans (Below.mono hbt LB.out)); replace LB := aq_ (Nat.le_trans LB.out (Below.size hbt)); replace S2 := aq_ (blk_below S2.out hbt); replace S4 := aq_ (blk_below S4.out hbt); replace M_ := aq_ (mdO_below M_.out hbt); replace V5 := aq_ (Kd.V_below V5.out hbt); replace G2L := aq_ (Nat.lt_of_lt_of_le G2L.out (Below.size hbt)); have S5 := aq_ hx1; clear hx1 hs1 hb1 hf1 hbt ALB ALG TB))
 go_upto_region 8 with (first
  | (with_reducible refine build_F4 (.const (.int .i64 4)) (.const (.int .u64 8)) (.const (.int .u64 1)) (.const (.int .i64 5)) rfl rfl rfl rfl rfl rfl ?_)
  | ((with_reducible refine alloc_Fr rfl rfl ?_); intro g7 hgt w8 hbox hb; have ALB := aq_ hb; have N7 := aq_ (show g2_ < g7 by have h_ := G2L.out; omega); have ALG := aq_ hgt; have TB := aq_ hbox; clear hgt hbox hb)
  | ((with_reducible refine store_Fr2 (.tmp 7) (.tmp 42) rfl rfl rfl rfl rfl TB.out ?_); intro w9 hx1 hs1 hb1; have hbt := ALB.out.trans (hb1 _ (Nat.le_of_eq ALG.out.symm)); replace HB := aq_ (HB.out.trans (Below.mono hbt LB.out)); replace LB := aq_ (Nat.le_trans LB.out (Below.size hbt)); replace S2 := aq_ (blk_below S2.out hbt); replace S4 := aq_ (blk_below S4.out hbt); replace M_ := aq_ (mdO_below M_.out hbt); replace S5 := aq_ (blk_below S5.out hbt); replace V5 := aq_ (Kd.V_below V5.out hbt); replace G2L := aq_ (Nat.lt_of_lt_of_le G2L.out (Below.size hbt)); have S7 := aq_ hx1; clear hx1 hs1 hb1 hbt ALB ALG TB))
 go_upto_region 9 with (first
  | (with_reducible refine load_S (.tmp 4) rfl rfl (p := ⟨g4, 0, none⟩) rfl (cells_box S4.out) ?_)
  | (with_reducible refine load_F (.tmp 7) rfl rfl (p := ⟨g7, 0, none⟩) rfl (cells_boxF S7.out) ?_)
  | ((go_at_call 18; (with_reducible refine (wproof_4 _).mono ?_)); rintro e w7 ⟨vp, rfl, hV0, hb⟩; have hV := keep_off hV0 G2L.out; clear hV0; obtain ⟨A8, c8, rfl⟩ := Kd.V_slice hV; replace HB := aq_ (HB.out.trans (Below.mono hb LB.out)); replace LB := aq_ (Nat.le_trans LB.out (Below.size hb)); replace S2 := aq_ (blk_below S2.out hb); replace S4 := aq_ (blk_below S4.out hb); replace M_ := aq_ (mdO_below M_.out hb); replace S5 := aq_ (blk_below S5.out hb); replace V5 := aq_ (Kd.V_below V5.out hb); replace S7 := aq_ (blk_below S7.out hb); replace G2L := aq_ (Nat.lt_of_lt_of_le G2L.out (Below.size hb)); have V8 := aq_ (V_base (b' := 0) hV); clear hb hV)
  | ((with_reducible refine alloc_Te rfl rfl ?_); intro g8 hgt w8 hbox hb; have ALB := aq_ hb; have N8 := aq_ (show g2_ < g8 by have h_ := G2L.out; omega); have ALG := aq_ hgt; have TB := aq_ hbox; clear hgt hbox hb)
  | ((with_reducible refine store_Te2 (.tmp 8) (.tmp 47) rfl rfl rfl rfl rfl rfl TB.out ?_); intro w9 hx1 hs1 hb1 hf1; have hbt := ALB.out.trans (hb1 _ (Nat.le_of_eq ALG.out.symm)); replace HB := aq_ (HB.out.trans (Below.mono hbt LB.out)); replace LB := aq_ (Nat.le_trans LB.out (Below.size hbt)); replace S2 := aq_ (blk_below S2.out hbt); replace S4 := aq_ (blk_below S4.out hbt); replace M_ := aq_ (mdO_below M_.out hbt); replace S5 := aq_ (blk_below S5.out hbt); replace V5 := aq_ (Kd.V_below V5.out hbt); replace S7 := aq_ (blk_below S7.out hbt); replace V8 := aq_ (Kd.V_below V8.out hbt); replace G2L := aq_ (Nat.lt_of_lt_of_le G2L.out (Below.size hbt)); have S8 := aq_ hx1; clear hx1 hs1 hb1 hf1 hbt ALB ALG TB))
 obtain ⟨⟨p50, p51, p52⟩, _⟩ := cells3 S5.out
 go_upto_region 10 with (first
  | (with_reducible refine load_Mo (.tmp 2) rfl rfl rfl S2.out ?_)
  | (with_reducible refine build_F02 (.const (.int .i64 2)) (.const (.int .u64 8)) rfl rfl rfl rfl ?_)
  | (with_reducible refine build_A2 (.const (.int .i64 1)) (.tmp 51) (.tmp 52) rfl rfl (proofT wx wF2) rfl rfl rfl ?_)
  | ((go_at_call 12; (with_reducible refine (wstepF_2 (.slice U1 wM1.U.length cU1) (.slice (some ad) wM1.T.length cT1) (.slice K1 wM1.K.length cK1) (.slice D1 wM1.D.length cD1) _ _ (fun k => k = g2_) (fun k hk => by rw [hk]; exact G2L.out) M_.out (told_V V5.out)).mono ?_)); rintro e w6 ⟨vU', vT', vK', vD', rfl, hO, hb⟩; obtain ⟨⟨U2, cU2, rfl⟩, ⟨T2, cT2, rfl⟩, ⟨K2, cK2, rfl⟩, ⟨D2, cD2, rfl⟩⟩ := mdO_slices hO; replace HB := aq_ (HB.out.trans (Below.mono hb LB.out)); replace LB := aq_ (Nat.le_trans LB.out (Below.size hb)); replace S2 := aq_ (blk_below S2.out hb); replace S4 := aq_ (blk_below S4.out hb); replace M_ := aq_ (mdO_below M_.out hb); replace S5 := aq_ (blk_below S5.out hb); replace V5 := aq_ (Kd.V_below V5.out hb); replace S7 := aq_ (blk_below S7.out hb); replace S8 := aq_ (blk_below S8.out hb); replace V8 := aq_ (Kd.V_below V8.out hb); replace G2L := aq_ (Nat.lt_of_lt_of_le G2L.out (Below.size hb)); have HO_ := aq_ hO; clear hO hb p50 p51 p52)
  | ((with_reducible refine store_Mo (.tmp 2) (.tmp 55) rfl rfl rfl rfl rfl rfl rfl rfl rfl rfl S2.out ?_); intro w9 hx1 hs1 hb1 hf1; replace HB := aq_ (hb1 _ _ (G2G.out) HB.out); replace LB := aq_ (Nat.le_trans LB.out (Nat.le_of_eq hs1.symm)); replace G2L := aq_ (Nat.lt_of_lt_of_le G2L.out (Nat.le_of_eq hs1.symm)); clear M_; have M_ := aq_ (mdO_set HO_.out hf1); clear S2; have S2 := aq_ hx1; replace S4 := aq_ ((hf1 _ (Nat.ne_of_gt N4.out)).trans S4.out); replace S5 := aq_ ((hf1 _ (Nat.ne_of_gt N5.out)).trans S5.out); replace V5 := aq_ (Kd.V_step V5.out fun k hk _ => hf1 k hk); replace S7 := aq_ ((hf1 _ (Nat.ne_of_gt N7.out)).trans S7.out); replace S8 := aq_ ((hf1 _ (Nat.ne_of_gt N8.out)).trans S8.out); replace V8 := aq_ (Kd.V_step V8.out fun k hk _ => hf1 k hk); clear hx1 hs1 hb1 hf1 HO_))
 obtain ⟨⟨p50, p51, p52⟩, _⟩ := cells3 S5.out
 go_upto_region 11 with (first
  | (with_reducible refine load_Mo (.tmp 2) rfl rfl rfl S2.out ?_)
  | (with_reducible refine load_F (.tmp 7) rfl rfl (p := ⟨g7, 0, none⟩) rfl (cells_boxF S7.out) ?_)
  | (with_reducible refine build_A3 (.const (.int .i64 1)) (.tmp 59) (.tmp 60) rfl rfl (proofT wx wF2) rfl rfl rfl ?_)
  | ((go_at_call 12; (with_reducible refine (wstepF_3 (.slice U2 wM2.U.length cU2) (.slice T2 wM2.T.length cT2) (.slice K2 wM2.K.length cK2) (.slice D2 wM2.D.length cD2) _ _ (fun k => k = g2_) (fun k hk => by rw [hk]; exact G2L.out) M_.out (told_V V5.out)).mono ?_)); rintro e w6 ⟨vU', vT', vK', vD', rfl, hO, hb⟩; obtain ⟨⟨U3, cU3, rfl⟩, ⟨T3, cT3, rfl⟩, ⟨K3, cK3, rfl⟩, ⟨D3, cD3, rfl⟩⟩ := mdO_slices hO; replace HB := aq_ (HB.out.trans (Below.mono hb LB.out)); replace LB := aq_ (Nat.le_trans LB.out (Below.size hb)); replace S2 := aq_ (blk_below S2.out hb); replace S4 := aq_ (blk_below S4.out hb); replace M_ := aq_ (mdO_below M_.out hb); replace S5 := aq_ (blk_below S5.out hb); replace V5 := aq_ (Kd.V_below V5.out hb); replace S7 := aq_ (blk_below S7.out hb); replace S8 := aq_ (blk_below S8.out hb); replace V8 := aq_ (Kd.V_below V8.out hb); replace G2L := aq_ (Nat.lt_of_lt_of_le G2L.out (Below.size hb)); have HO_ := aq_ hO; clear hO hb p50 p51 p52)
  | ((with_reducible refine alloc_Mo rfl rfl ?_); intro g11 hgt w8 hbox hb; have ALB := aq_ hb; have ALG := aq_ hgt; have TB := aq_ hbox; clear hgt hbox hb)
  | ((with_reducible refine store_Mo (.tmp 11) (.tmp 63) rfl rfl rfl rfl rfl rfl rfl rfl rfl rfl TB.out ?_); intro w9 hx1 hs1 hb1 hf1; have hbt := hb1 _ _ (Nat.le_of_eq ALG.out.symm) ALB.out; replace HB := aq_ (HB.out.trans (Below.mono hbt LB.out)); replace LB := aq_ (Nat.le_trans LB.out (Below.size hbt)); replace S2 := aq_ (blk_below S2.out hbt); replace S4 := aq_ (blk_below S4.out hbt); replace M_ := aq_ (mdO_below M_.out hbt); replace S5 := aq_ (blk_below S5.out hbt); replace V5 := aq_ (Kd.V_below V5.out hbt); replace S7 := aq_ (blk_below S7.out hbt); replace S8 := aq_ (blk_below S8.out hbt); replace V8 := aq_ (Kd.V_below V8.out hbt); replace G2L := aq_ (Nat.lt_of_lt_of_le G2L.out (Below.size hbt)); clear hx1 hs1 hb1 hf1 hbt ALB ALG TB HO_))
 obtain ⟨⟨p80, p81, p82⟩, _⟩ := cells3 S8.out
 go_upto_region 12 with (first
  | (with_reducible refine load_Mo (.tmp 2) rfl rfl rfl S2.out ?_)
  | (with_reducible refine load_F (.tmp 7) rfl rfl (p := ⟨g7, 0, none⟩) rfl (cells_boxF S7.out) ?_)
  | (with_reducible refine build_A3 (.const (.int .i64 1)) (.tmp 67) (.tmp 68) rfl rfl (proofT wx wC) rfl rfl rfl ?_)
  | ((go_at_call 12; (with_reducible refine (wstepF_4 (.slice U2 wM2.U.length cU2) (.slice T2 wM2.T.length cT2) (.slice K2 wM2.K.length cK2) (.slice D2 wM2.D.length cD2) _ _ (fun k => k = g2_) (fun k hk => by rw [hk]; exact G2L.out) M_.out (told_V V8.out)).mono ?_)); rintro e w6 ⟨vU', vT', vK', vD', rfl, hO, hb⟩; obtain ⟨⟨U4, cU4, rfl⟩, ⟨T4, cT4, rfl⟩, ⟨K4, cK4, rfl⟩, ⟨D4, cD4, rfl⟩⟩ := mdO_slices hO; replace HB := aq_ (HB.out.trans (Below.mono hb LB.out)); replace LB := aq_ (Nat.le_trans LB.out (Below.size hb)); replace S2 := aq_ (blk_below S2.out hb); replace S4 := aq_ (blk_below S4.out hb); replace M_ := aq_ (mdO_below M_.out hb); replace S5 := aq_ (blk_below S5.out hb); replace V5 := aq_ (Kd.V_below V5.out hb); replace S7 := aq_ (blk_below S7.out hb); replace S8 := aq_ (blk_below S8.out hb); replace V8 := aq_ (Kd.V_below V8.out hb); replace G2L := aq_ (Nat.lt_of_lt_of_le G2L.out (Below.size hb)); have HO_ := aq_ hO; clear hO hb p80 p81 p82)
  | ((with_reducible refine store_Mo (.tmp 2) (.tmp 71) rfl rfl rfl rfl rfl rfl rfl rfl rfl rfl S2.out ?_); intro w9 hx1 hs1 hb1 hf1; replace HB := aq_ (hb1 _ _ (G2G.out) HB.out); replace LB := aq_ (Nat.le_trans LB.out (Nat.le_of_eq hs1.symm)); replace G2L := aq_ (Nat.lt_of_lt_of_le G2L.out (Nat.le_of_eq hs1.symm)); clear M_; have M_ := aq_ (mdO_set HO_.out hf1); clear S2; have S2 := aq_ hx1; replace S4 := aq_ ((hf1 _ (Nat.ne_of_gt N4.out)).trans S4.out); replace S5 := aq_ ((hf1 _ (Nat.ne_of_gt N5.out)).trans S5.out); replace V5 := aq_ (Kd.V_step V5.out fun k hk _ => hf1 k hk); replace S7 := aq_ ((hf1 _ (Nat.ne_of_gt N7.out)).trans S7.out); replace S8 := aq_ ((hf1 _ (Nat.ne_of_gt N8.out)).trans S8.out); replace V8 := aq_ (Kd.V_step V8.out fun k hk _ => hf1 k hk); clear hx1 hs1 hb1 hf1 HO_))
 clear S5 V5 S7 S8 V8
 go_upto_region 13 with (first
  | (with_reducible refine load_S (.tmp 4) rfl rfl (p := ⟨g4, 0, none⟩) rfl (cells_box S4.out) ?_)
  | ((go_at_call 21; (with_reducible refine (key_w _).mono ?_)); rintro e w7 ⟨vp, rfl, hV0, hb⟩; obtain ⟨A14, c14, rfl⟩ := Kd.V_slice hV0; replace HB := aq_ (HB.out.trans (Below.mono hb LB.out)); replace LB := aq_ (Nat.le_trans LB.out (Below.size hb)); replace S2 := aq_ (blk_below S2.out hb); replace S4 := aq_ (blk_below S4.out hb); replace M_ := aq_ (mdO_below M_.out hb); replace G2L := aq_ (Nat.lt_of_lt_of_le G2L.out (Below.size hb)); clear hb hV0)
  | ((with_reducible refine alloc_Te rfl rfl ?_); intro g14 hgt w8 hbox hb; have ALB := aq_ hb; have N14 := aq_ (show g2_ < g14 by have h_ := G2L.out; omega); have ALG := aq_ hgt; have TB := aq_ hbox; clear hgt hbox hb)
  | ((with_reducible refine store_Te2 (.tmp 14) (.tmp 76) rfl rfl rfl rfl rfl rfl TB.out ?_); intro w9 hx1 hs1 hb1 hf1; have hbt := ALB.out.trans (hb1 _ (Nat.le_of_eq ALG.out.symm)); replace HB := aq_ (HB.out.trans (Below.mono hbt LB.out)); replace LB := aq_ (Nat.le_trans LB.out (Below.size hbt)); replace S2 := aq_ (blk_below S2.out hbt); replace S4 := aq_ (blk_below S4.out hbt); replace M_ := aq_ (mdO_below M_.out hbt); replace G2L := aq_ (Nat.lt_of_lt_of_le G2L.out (Below.size hbt)); have S14 := aq_ hx1; clear hx1 hs1 hb1 hf1 hbt ALB ALG TB))
 have k6 : w9.cell? ⟨g2_, 6, none⟩ = some (.slice D4 1 cD4) := blk_cell S2.out 6
 obtain ⟨ae, hD4, hcD⟩ := one_D (told_C' (mdO_told M_.out).2.2.2).2.2
 subst hD4
 go_wp2_with (first
  | ((with_reducible refine gate_load 42 (.tmp 2) rfl ?_); refine load_Mw (.tmp 2) rfl (by rfl) rfl S2.out ?_)
  | ((go_at_call 22; (with_reducible refine (may_w3 (.slice U4 wM3.U.length cU4) (.slice T4 wM3.T.length cT4) (.slice K4 wM3.K.length cK4) (.slice (some ae) wM3.D.length cD4) _ (mdO_told M_.out)).mono ?_)); rintro e w7 ⟨rfl, hb⟩; replace HB := aq_ (HB.out.trans (Below.mono hb LB.out)); replace LB := aq_ (Nat.le_trans LB.out (Below.size hb)); replace S2 := aq_ (blk_below S2.out hb); replace M_ := aq_ (mdO_below M_.out hb); clear hb k6 hcD)
  | ((go_at_call 23; (with_reducible refine (same_w3 (.slice U4 wM3.U.length cU4) (.slice T4 wM3.T.length cT4) (.slice K4 wM3.K.length cK4) (.slice (some ae) wM3.D.length cD4) _ (mdO_told M_.out)).mono ?_)); rintro e w7 ⟨rfl, hb⟩; replace HB := aq_ (HB.out.trans (Below.mono hb LB.out)); replace LB := aq_ (Nat.le_trans LB.out (Below.size hb)); clear hb))
 go_ret
 exact ⟨rfl, HB.out⟩
end Go.Proofs.YtdinphnljokigaaGreat.P
end
