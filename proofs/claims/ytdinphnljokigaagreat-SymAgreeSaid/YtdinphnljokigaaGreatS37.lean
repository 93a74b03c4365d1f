/- What LawSymAgree rests on, part 37: several texts put together. -/
import Derived.Test.YtdinphnljokigaaGreatS36
import Derived.Test.YtdinphnljokigaaGreatS34
import Derived.Test.YtdinphnljokigaaGreatS35
import Derived.Test.YtdinphnljokigaaGreatS22
import Derived.Test.YtdinphnljokigaaGreatS3
set_option linter.unusedVariables false
set_option linter.unnecessarySimpa false
set_option linter.unusedSimpArgs false
set_option maxRecDepth 100000
section
namespace Go.Proofs.YtdinphnljokigaaGreat.P
open Go.RowKit Go.Lib Go.Proofs.YtdinphnljokigaaGreatW.PrintWords Go.Proofs.YtdinphnljokigaaGreatW.PrintLast Go.Proofs.YtdinphnljokigaaGreatW.PrintMore
def okE (d : Don) (a : Ac) (e : Int) : Bool := (a.kind == 0) && ((e == 0) && ((a.X.user == d.user) && ((a.X.epoch == d.epoch) && ((a.X.draw == d.draw) && ((a.X.cn == d.cn) && ((a.F.kind == 4) && ((a.F.count == d.count) && ((a.F.cmd == d.cmd) && (a.F.arg == d.arg)))))))))
def sentB (d : Don) (l : List (Ac × Int)) : Bool := l.any fun p => okE d p.1 p.2
def KInv (bad : List Int) (M : Mdl) (ps : List (Ac × Int)) : Prop := ∃ E : List S24, M.K = keysL bad ++ E ∧ ∀ t ∈ E, ∃ p ∈ ps, p.1.kind = 0 ∧ p.2 = 0 ∧ wfS p.1.X ∧ wfF p.1.F ∧ isP p.1.X p.1.F = true ∧ t = proofT p.1.X p.1.F
theorem kinv_more {bad : List Int} {M M' : Mdl} {ps : List (Ac × Int)} (h : KInv bad M ps) (hK : M'.K = M.K) (p : Ac × Int) : KInv bad M' (ps ++ [p]) := by
 obtain ⟨E, h1, h2⟩ := h
 refine ⟨E, hK.trans h1, fun t ht => ?_⟩
 obtain ⟨q, hq, hr⟩ := h2 t ht
 exact ⟨q, List.mem_append_left _ hq, hr⟩
theorem proved_K (M : Mdl) (a : Ac) : (provedM M a).1.K = M.K ∧ (provedM M a).1.U = M.U := by
 unfold provedM
 split
 ·exact ⟨rfl, rfl⟩
 generalize M.T.getD (findS M.T a.F.sess).toNat zses = x
 unfold foundM
 split
 ·exact ⟨rfl, rfl⟩
 split
 ·exact ⟨rfl, rfl⟩
 split
 ·exact ⟨rfl, rfl⟩
 split
 ·exact ⟨rfl, rfl⟩
 unfold ranM
 split
 ·exact ⟨rfl, rfl⟩
 split
 ·exact ⟨rfl, rfl⟩
 split
 ·exact ⟨rfl, rfl⟩
 ·exact ⟨rfl, rfl⟩
theorem step_U (M : Mdl) (a : Ac) : (stepM M a).1.U = M.U := by
 unfold stepM
 split
 ·rfl
 split
 ·unfold emitM
  split
  ·rfl
  split
  ·rfl
  split
  ·rfl
  rfl
 split
 ·unfold giveM
  split
  ·rfl
  split
  ·unfold helloM
   split
   ·rfl
   split
   ·rfl
   rfl
  ·split
   ·exact (proved_K M a).2
   ·rfl
 split
 ·rfl
 split
 ·split
  ·rfl
  ·rfl
 ·rfl
theorem kinv_step {bad : List Int} {M : Mdl} {ps : List (Ac × Int)} (h : KInv bad M ps) {a : Ac} (hX : wfS a.X) (hF : wfF a.F) : KInv bad (stepM M a).1 (ps ++ [(a, (stepM M a).2)]) := by
 unfold stepM
 split
 ·exact kinv_more h rfl _
 split
 ·rename_i hk
  unfold emitM
  split
  ·exact kinv_more h rfl _
  split
  ·exact kinv_more h rfl _
  rename_i hp
  split
  ·exact kinv_more h rfl _
  obtain ⟨E, h1, h2⟩ := h
  refine ⟨E ++ [proofT a.X a.F], by show M.K ++ [proofT a.X a.F] = _; rw [h1, List.append_assoc], fun t ht => ?_⟩
  rcases List.mem_append.1 ht with ht | ht
  ·obtain ⟨q, hq, hr⟩ := h2 t ht
   exact ⟨q, List.mem_append_left _ hq, hr⟩
  ·exact ⟨_, List.mem_append_right _ (List.mem_singleton.2 rfl), hk, rfl, hX, hF, by simpa using hp, List.mem_singleton.1 ht⟩
 split
 ·unfold giveM
  split
  ·exact kinv_more h rfl _
  split
  ·unfold helloM
   split
   ·exact kinv_more h rfl _
   split
   ·exact kinv_more h rfl _
   exact kinv_more h rfl _
  ·split
   ·exact kinv_more h (proved_K M a).1 _
   ·exact kinv_more h rfl _
 split
 ·exact kinv_more h rfl _
 split
 ·split
  ·exact kinv_more h rfl _
  ·exact kinv_more h rfl _
 ·exact kinv_more h rfl _
theorem done_of {M : Mdl} {a : Ac} (h : M.D.length < (stepM M a).1.D.length) : a.kind = 1 ∧ a.F.kind = 4 ∧ ∃ x ∈ M.T, (stepM M a).1.D = M.D ++ [doneM x a.F] ∧ isP x a.F = true ∧ a.T = proofT x a.F ∧ mayR (roleU M.U x.user) a.F.cmd = true := by
 unfold stepM at h ⊢
 split at h
 ·exact absurd h (Nat.lt_irrefl _)
 rename_i h0
 rw [if_neg h0]
 split at h
 ·unfold emitM at h
  split at h
  ·exact absurd h (Nat.lt_irrefl _)
  split at h
  ·exact absurd h (Nat.lt_irrefl _)
  split at h
  ·exact absurd h (Nat.lt_irrefl _)
  exact absurd h (Nat.lt_irrefl _)
 rename_i h1
 rw [if_neg h1]
 split at h
 ·rename_i h2
  rw [if_pos h2]
  unfold giveM at h ⊢
  split at h
  ·exact absurd h (Nat.lt_irrefl _)
  rename_i h3
  rw [if_neg h3]
  split at h
  ·unfold helloM at h
   split at h
   ·exact absurd h (Nat.lt_irrefl _)
   split at h
   ·exact absurd h (Nat.lt_irrefl _)
   exact absurd h (Nat.lt_irrefl _)
  rename_i h4
  rw [if_neg h4]
  split at h
  ·rename_i h5
   rw [if_pos h5]
   unfold provedM at h ⊢
   split at h
   ·exact absurd h (Nat.lt_irrefl _)
   rename_i h6
   rw [if_neg h6]
   rcases findS_spec M.T a.F.sess with ⟨g1, _⟩ | ⟨i, x, g1, g2, g3, _⟩
   ·exact absurd g1 h6
   have hx : M.T.getD (findS M.T a.F.sess).toNat zses = x := by
    rw [g1, Int.toNat_natCast, List.getD_eq_getElem?_getD, g2]
    rfl
   rw [hx] at h ⊢
   have hxm : x ∈ M.T := List.mem_of_getElem? g2
   unfold foundM at h ⊢
   split at h
   ·exact absurd h (Nat.lt_irrefl _)
   rename_i k1
   rw [if_neg k1]
   split at h
   ·exact absurd h (Nat.lt_irrefl _)
   rename_i k2
   rw [if_neg k2]
   split at h
   ·exact absurd h (Nat.lt_irrefl _)
   rename_i k3
   rw [if_neg k3]
   split at h
   ·exact absurd h (Nat.lt_irrefl _)
   rename_i k4
   rw [if_neg k4]
   have k4' : a.F.kind = 4 := Decidable.of_not_not k4
   unfold ranM at h ⊢
   split at h
   ·exact absurd h (Nat.lt_irrefl _)
   rename_i k5
   rw [if_neg k5]
   split at h
   ·exact absurd h (Nat.lt_irrefl _)
   rename_i k6
   rw [if_neg k6]
   refine ⟨h2, k4', x, hxm, ?_, by simpa using k2, ((sameT_iff _ _).1 (by simpa using k3)).symm, by simpa using k6⟩
   split <;> rfl
  ·exact absurd h (Nat.lt_irrefl _)
 ·rename_i h2
  split at h
  ·exact absurd h (Nat.lt_irrefl _)
  split at h
  ·split at h
   ·exact absurd h (Nat.lt_irrefl _)
   ·exact absurd h (Nat.lt_irrefl _)
  ·exact absurd h (Nat.lt_irrefl _)
theorem kinv_known {bad : List Int} {M : Mdl} {ps : List (Ac × Int)} (h : KInv bad M ps) : ∀ t ∈ M.K, keyOrProof t := by
 obtain ⟨E, h1, h2⟩ := h
 intro t ht
 rw [h1] at ht
 rcases List.mem_append.1 ht with ht | ht
 ·obtain ⟨n, _, rfl⟩ := List.mem_map.1 ht
  exact .inl ⟨n, rfl⟩
 ·obtain ⟨p, _, _, _, q1, q2, q3, q4⟩ := h2 t ht
  exact .inr ⟨p.1.X, p.1.F, q1, q2, q3, q4⟩
theorem agree_of {bad : List Int} {M : Mdl} {ps : List (Ac × Int)} (h : KInv bad M ps) {a : Ac} {x : Ses} (hx : wfS x) (hF : wfF a.F) (h4 : a.F.kind = 4) (hp : isP x a.F = true) (hT : a.T = proofT x a.F) (hm : makesB M.K a.T = true) : sentB (doneM x a.F) ps = true ∨ inL (keysL bad) (keyP x.user) = true := by
 have hL : mayL M.K = true := by
  unfold makesB at hm
  rw [Bool.and_eq_true] at hm
  exact hm.1
 rw [hT, makes_proof (kinv_known h) hL hx hF hp, Bool.or_eq_true, inL_iff, inL_iff] at hm
 obtain ⟨E, h1, h2⟩ := h
 rw [h1] at hm
 rcases hm with hm | hm
 ·rcases List.mem_append.1 hm with hm | hm
  ·obtain ⟨n, _, hn⟩ := List.mem_map.1 hm
   have := congrArg S24.f0 hn
   rw [(proof_small hx hF hp).2.2] at this
   exact absurd this (by show ¬ (1 : Int) = 3; decide)
  ·obtain ⟨p, hpm, q1, q2, q3, q4, q5, q6⟩ := h2 _ hm
   have hs : sameT (proofT x a.F) (proofT p.1.X p.1.F) = true := (sameT_iff _ _).2 q6
   rw [proof_same hx hF q3 q4 hp q5] at hs
   simp only [Bool.and_eq_true, beq_iff_eq, decide_eq_true_eq] at hs
   obtain ⟨⟨e1, e2, e3, e4⟩, e5⟩ := hs
   left
   unfold sentB
   rw [List.any_eq_true]
   refine ⟨p, hpm, ?_⟩
   simp [okE, doneM, q1, q2, e1, e2, e3, e4, ← e5, h4]
 ·rcases List.mem_append.1 hm with hm | hm
  ·exact .inr ((inL_iff _ _).2 hm)
  ·obtain ⟨p, _, _, _, q3, q4, q5, q6⟩ := h2 _ hm
   have := congrArg S24.f0 q6
   rw [(proof_small q3 q4 q5).2.2] at this
   exact absurd this (by show ¬ (1 : Int) = 3; decide)
def wU : List Usr := [⟨3, 2, List.replicate 16 1⟩]
def wF1 : Frm := { zfrm with user := 3, cn := 5 }
def wX1 : Ses := { zses with draw := 8 }
def wA1 : Ac := ⟨1, wF1, wX1, z24⟩
def wx : Ses := ⟨3, 1, 8, 5, zkey, false, 0, 0⟩
def wM1 : Mdl := { startM wU 9 with T := [wx] }
def wF2 : Frm := { zfrm with kind := 2, sess := 8 }
def wC : Frm := { zfrm with kind := 4, sess := 8, count := 1, cmd := 5 }
def wA2 : Ac := ⟨1, wF2, zses, proofT wx wF2⟩
def wM2 : Mdl := { wM1 with T := [{ wx with isOpen := true }] }
def wA3 : Ac := ⟨1, wC, zses, proofT wx wF2⟩
def wA4 : Ac := ⟨1, wC, zses, proofT wx wC⟩
def wM3 : Mdl := { wM2 with T := [{ { wx with isOpen := true } with count := 1 }], D := [⟨3, 1, 8, 5, 1, 5, 0⟩] }
theorem aw_1 : stepM (startM wU 9) wA1 = (wM1, 0) := by kernel_rfl
theorem aw_2 : stepM wM1 wA2 = (wM2, 0) := by kernel_rfl
theorem aw_3 : stepM wM2 wA3 = (wM2, 7) := by kernel_rfl
theorem aw_4 : stepM wM2 wA4 = (wM3, 0) := by kernel_rfl
theorem aw_p : isP wx wF2 = true := by kernel_rfl
theorem aw_c : isP wx wC = true := by kernel_rfl
theorem aw_k : hasS wx = true := by kernel_rfl
theorem aw_m : mayM wM3 = true := by kernel_rfl
theorem usr_told (W : World) (x : Usr) {A : Option Addr} {c : Nat} (hl : x.key.length ≤ c) (hC : (Kd.int .u8).C W A x.key.length x.key) : Told kU (W.alloc (.cells #[.int .i64 x.no, .int .i64 x.role, .slice A x.key.length c] 67)) (.slice (some ⟨W.heap.size, 0, none⟩) 1 1) [x] := by
 have hb : Below W.heap.size W (W.alloc (.cells #[.int .i64 x.no, .int .i64 x.role, .slice A x.key.length c] 67)) := below_alloc (Below.refl _ _) _
 have hg := blk_new W (.cells #[.int .i64 x.no, .int .i64 x.role, .slice A x.key.length c] 67)
 refine ⟨_, _, rfl, Nat.le_refl _, rfl, by simp, fun _ => ⟨_, rfl, fun j p hj => ?_⟩⟩
 have hc' : ∀ i, (W.alloc (.cells #[.int .i64 x.no, .int .i64 x.role, .slice A x.key.length c] 67)).cell? ((⟨W.heap.size, 0, none⟩ : Addr).add i) = #[.int .i64 x.no, .int .i64 x.role, .slice A x.key.length c][i]? := fun i => by
  rw [add_plain]
  exact blk_cell hg i
 rcases j with _ | j
 ·simp only [List.getElem?_cons_zero, Option.some.injEq] at hj
  subst hj
  refine ⟨_, rfl, kU_mk _ x hl (Kd.C_below hC hb), fun i v hu => ?_⟩
  rw [hc', Nat.zero_mul, Nat.zero_add]
  rcases i with _ | _ | _ | i
  all_goals first | (simp at hu; done) | exact hu
 ·simp at hj
theorem told_nil {w : World} {α : Type} {d : Kd α} : Told d w (.slice none 0 0) ([] : List α) := ⟨none, 0, rfl, Nat.le_refl _, Kd.C_nil _ _⟩
theorem start_1 (ad : Addr) (c : Nat) (w : World) : Calls Tryz.prog 10 #[.slice (some ad) 1 c, .slice none 0 0, .int .i64 9] w fun e w' => e = .returned (.agg (mca (startM wU 9) (.slice (some ad) wU.length c) (.slice none 0 0) (.slice none 0 0) (.slice none 0 0))) ∧ Below w.heap.size w w' := start_nil wU (some ad) c 9 w
theorem start_md {w : World} {ad : Addr} {c : Nat} (h : Told kU w (.slice (some ad) 1 c) wU) : MdO w (fun _ => False) (startM wU 9) (.slice (some ad) wU.length c) (.slice none 0 0) (.slice none 0 0) (.slice none 0 0) :=
 mdO_of (w := w) ⟨h, told_nil, told_nil, told_nil⟩ (Below.refl _ _) fun _ h => h.elim
theorem no_q {w : World} : ∀ k, (fun _ : Nat => False) k → k < w.heap.size := fun _ h => h.elim
theorem mdO_set {w w' : World} {g : Nat} {M : Mdl} {vU vT vK vD : Value} (h : MdO w (fun k => k = g) M vU vT vK vD) (hf : ∀ k, k ≠ g → w'.heap[k]? = w.heap[k]?) : MdO w' (fun k => k = g) M vU vT vK vD :=
 ⟨Kd.V_step h.1 fun k hk _ => hf k hk, Kd.V_step h.2.1 fun k hk _ => hf k hk, Kd.V_step h.2.2.1 fun k hk _ => hf k hk, Kd.V_step h.2.2.2 fun k hk _ => hf k hk⟩
theorem wU_small (M : Mdl) (hU : M.U = wU) (hT : M.T.length < 1000000) (hK : M.K = []) (hD : M.D.length < 1000000) : smallM M := by
 refine ⟨⟨by rw [hU]; decide, hT, by rw [hK]; decide, hD⟩, ?_, by rw [hK]; simp⟩
 rw [hU]
 intro u hu
 simp only [wU, List.mem_singleton] at hu
 subst hu
 decide
theorem one_S {w : World} {A : Option Addr} {x : Ses} (h : kS.C w A 1 [x]) : ∃ ad, A = some ad ∧ ∀ j v, (scl x)[j]? = some v → w.cell? (ad.add j) = some v := by
 obtain ⟨ad, e, hc, _⟩ := at_S h 0 (by omega) x rfl
 refine ⟨ad, e, fun j v hv => ?_⟩
 have h0 : ad.add (0 * 39) = ad := by simp [Addr.add]
 have := hc j v hv
 rw [h0] at this
 exact this
theorem wx_wf : wfS wx := by unfold wfS; decide
theorem wF1_wf : wfF wF1 := by unfold wfF; decide
theorem wF2_wf : wfF wF2 := by unfold wfF; decide
theorem wC_wf : wfF wC := by unfold wfF; decide
def wantA (M : Mdl) (a : Ac) : Prop := smallM M ∧ wfS a.X ∧ wfF a.F ∧ ∀ x ∈ M.T, wfS x
theorem wf_1 : wantA (startM wU 9) wA1 := ⟨wU_small _ rfl (by decide) rfl (by decide), by unfold wfS; decide, wF1_wf, by simp [startM]⟩
theorem wf_2 : wantA wM1 wA2 := by
 refine ⟨wU_small _ rfl (by decide) rfl (by decide), by unfold wfS; decide, wF2_wf, fun x hx => ?_⟩
 obtain rfl : x = wx := by simpa [wM1] using hx
 exact wx_wf
theorem wf_3 : wantA wM2 wA3 := by
 refine ⟨wU_small _ rfl (by decide) rfl (by decide), by unfold wfS; decide, wC_wf, fun x hx => ?_⟩
 obtain rfl : x = { wx with isOpen := true } := by simpa [wM2] using hx
 unfold wfS
 decide
theorem wf_4 : wantA wM2 wA4 := ⟨wU_small _ rfl (by decide) rfl (by decide), by unfold wfS; decide, wC_wf, wf_3.2.2.2⟩
theorem step_at (M : Mdl) (a : Ac) (vU vT vK vD vA : Value) {M' : Mdl} {n : Int} (h : stepM M a = (M', n)) (w : World) (rq : Nat → Prop) (hq : ∀ k, rq k → k < w.heap.size) (hm : MdO w rq M vU vT vK vD) (hw : wantA M a) (_h : True) (hA : Told k24 w vA a.T.f2) :
  Calls Tryz.prog 12 #[.agg (mca M vU vT vK vD), .agg (aca a vA)] w fun e w' => ∃ vU' vT' vK' vD', e = .returned (.tuple #[.agg (mca M' vU' vT' vK' vD'), .int .i64 n]) ∧ MdO w' rq M' vU' vT' vK' vD' ∧ Below w.heap.size w w' := by
 have := step_any M a vU vT vK vD vA w rq hq hm hw.1 hw.2.1 hw.2.2.1 hw.2.2.2 hA
 rw [h] at this
 exact this
theorem one_D {w : World} {A : Option Addr} {x : Don} (h : kD.C w A 1 [x]) : ∃ ad, A = some ad ∧ w.cell? ⟨ad.block, ad.off + 5, none⟩ = some (.int .i64 x.cmd) := by
 obtain ⟨ad, e, _, _, _, _, _, h5, _⟩ := at_D h 0 (by omega) x rfl
 refine ⟨ad, e, ?_⟩
 have h0 : ad.add (0 * 7) = ad := by simp [Addr.add]
 rw [h0] at h5
 exact h5
theorem keep_off {w : World} {g n : Nat} {v : Value} {l : List S24} (h : Kd.V k24 36 w n (fun j => n ≤ j) v l) (hg : g < n) : Kd.V k24 36 w n (fun j => j ≠ g) v l := Kd.V_mono h fun k hk e => by omega
theorem wproof_2 (w : World) : Calls Tryz.prog 18 #[.agg (sca wx), .agg (fca wF2)] w fun e w' => ∃ v2, e = .returned (.tuple #[.agg #[.int .i64 (proofT wx wF2).f0, .int .i64 (proofT wx wF2).f1, v2], .bool true]) ∧ Kd.V k24 36 w' w.heap.size (fun j => w.heap.size ≤ j) v2 (proofT wx wF2).f2 ∧ Below w.heap.size w w' := by
 have := proof_any wx wF2 w wx_wf wF2_wf
 rw [aw_p] at this
 exact this
theorem wproof_4 (w : World) : Calls Tryz.prog 18 #[.agg (sca wx), .agg (fca wC)] w fun e w' => ∃ v2, e = .returned (.tuple #[.agg #[.int .i64 (proofT wx wC).f0, .int .i64 (proofT wx wC).f1, v2], .bool true]) ∧ Kd.V k24 36 w' w.heap.size (fun j => w.heap.size ≤ j) v2 (proofT wx wC).f2 ∧ Below w.heap.size w w' := by
 have := proof_any wx wC w wx_wf wC_wf
 rw [aw_c] at this
 exact this
theorem key_w (w : World) : Calls Tryz.prog 21 #[.agg (sca wx)] w fun e w' => ∃ v2, e = .returned (.tuple #[.agg #[.int .i64 (keyT wx).f0, .int .i64 (keyT wx).f1, v2], .bool true]) ∧ Kd.V k24 36 w' w.heap.size (fun j => w.heap.size ≤ j) v2 (keyT wx).f2 ∧ Below w.heap.size w w' := by
 have := key_any wx w (by decide) (by decide)
 rw [aw_k] at this
 exact this
theorem wstep_2 (vU vT vK vD vA : Value) (w : World) (rq : Nat → Prop) (hq : ∀ k, rq k → k < w.heap.size) (hm : MdO w rq wM1 vU vT vK vD) (hA : Told k24 w vA (proofT wx wF2).f2) :
  Calls Tryz.prog 12 #[.agg (mca wM1 vU vT vK vD), .agg (aca ⟨1, wF2, zses, proofT wx wF2⟩ vA)] w fun e w' => ∃ vU' vT' vK' vD', e = .returned (.tuple #[.agg (mca wM2 vU' vT' vK' vD'), .int .i64 0]) ∧ MdO w' rq wM2 vU' vT' vK' vD' ∧ Below w.heap.size w w' := step_at wM1 wA2 vU vT vK vD vA aw_2 w rq hq hm wf_2 trivial hA
theorem wstep_3 (vU vT vK vD vA : Value) (w : World) (rq : Nat → Prop) (hq : ∀ k, rq k → k < w.heap.size) (hm : MdO w rq wM2 vU vT vK vD) (hA : Told k24 w vA (proofT wx wF2).f2) :
  Calls Tryz.prog 12 #[.agg (mca wM2 vU vT vK vD), .agg (aca ⟨1, wC, zses, proofT wx wF2⟩ vA)] w fun e w' => ∃ vU' vT' vK' vD', e = .returned (.tuple #[.agg (mca wM2 vU' vT' vK' vD'), .int .i64 7]) ∧ MdO w' rq wM2 vU' vT' vK' vD' ∧ Below w.heap.size w w' := step_at wM2 wA3 vU vT vK vD vA aw_3 w rq hq hm wf_3 trivial hA
theorem wstep_4 (vU vT vK vD vA : Value) (w : World) (rq : Nat → Prop) (hq : ∀ k, rq k → k < w.heap.size) (hm : MdO w rq wM2 vU vT vK vD) (hA : Told k24 w vA (proofT wx wC).f2) :
  Calls Tryz.prog 12 #[.agg (mca wM2 vU vT vK vD), .agg (aca ⟨1, wC, zses, proofT wx wC⟩ vA)] w fun e w' => ∃ vU' vT' vK' vD', e = .returned (.tuple #[.agg (mca wM3 vU' vT' vK' vD'), .int .i64 0]) ∧ MdO w' rq wM3 vU' vT' vK' vD' ∧ Below w.heap.size w w' := step_at wM2 wA4 vU vT vK vD vA aw_4 w rq hq hm wf_4 trivial hA
theorem may_w3 (vU vT vK vD : Value) (w : World) (hm : MdC w wM3 vU vT vK vD) : Calls Tryz.prog 22 #[.agg (mca wM3 vU vT vK vD)] w fun e w' => e = .returned (.bool true) ∧ Below w.heap.size w w' := by
 have := mayM_any wM3 vU vT vK vD w hm
 rw [aw_m] at this
 exact this
theorem same_w3 (vU vT vK vD : Value) (w : World) (hm : MdC w wM3 vU vT vK vD) : Calls Tryz.prog 23 #[.agg (mca wM3 vU vT vK vD), .agg (mca wM3 vU vT vK vD)] w fun e w' => e = .returned (.bool true) ∧ Below w.heap.size w w' := by
 have := sameM_any wM3 wM3 vU vT vK vD vU vT vK vD w hm hm
 rw [show sameM wM3 wM3 = true by decide +kernel] at this
 exact this
section
variable {ops : Array Oper} {rest : List Oper} {o : Oper} {a : Act} {w : World} {Q : Exit → Act → World → Prop}
theorem bF13 (w : World) (u c : Int) : (Instr.build 31 #[(1, .int .i64 u), (3, .int .u64 c)]).run Tryz.prog w = .ok (.agg (fca ⟨0, u, 0, c, 0, 0, 0, 0, zkey⟩)) w := by kernel_rfl
theorem build_F13 (x y : Operand) (ho : o.op = .build 31 #[(1, x), (3, y)]) (hgd : o.guard = none) {u c : Int} (hx : a.eval x = .int .i64 u) (hy : a.eval y = .int .u64 c) (h : wpList Tryz.prog ops Q rest (a.put o.dst (.agg (fca ⟨0, u, 0, c, 0, 0, 0, 0, zkey⟩))) w) : wpList Tryz.prog ops Q (o :: rest) a w := by
 refine Kd.event_run hgd (v := .agg (fca ⟨0, u, 0, c, 0, 0, 0, 0, zkey⟩)) ?_ h
 unfold execOp
 simp only [ho, List.map_toArray, List.map_cons, List.map_nil, hx, hy, Sem.run_bind, bF13, Result.andThen_ok, Sem.run_pure]
theorem bF02 (w : World) : (Instr.build 31 #[(0, .int .i64 2), (2, .int .u64 8)]).run Tryz.prog w = .ok (.agg (fca wF2)) w := by kernel_rfl
theorem build_F02 (x y : Operand) (ho : o.op = .build 31 #[(0, x), (2, y)]) (hgd : o.guard = none) (hx : a.eval x = .int .i64 2) (hy : a.eval y = .int .u64 8) (h : wpList Tryz.prog ops Q rest (a.put o.dst (.agg (fca wF2))) w) : wpList Tryz.prog ops Q (o :: rest) a w := by
 refine Kd.event_run hgd (v := .agg (fca wF2)) ?_ h
 unfold execOp
 simp only [ho, List.map_toArray, List.map_cons, List.map_nil, hx, hy, Sem.run_bind, bF02, Result.andThen_ok, Sem.run_pure]
theorem bF4 (w : World) : (Instr.build 31 #[(0, .int .i64 4), (2, .int .u64 8), (5, .int .u64 1), (6, .int .i64 5)]).run Tryz.prog w = .ok (.agg (fca wC)) w := by kernel_rfl
theorem build_F4 (x y z u : Operand) (ho : o.op = .build 31 #[(0, x), (2, y), (5, z), (6, u)]) (hgd : o.guard = none) (hx : a.eval x = .int .i64 4) (hy : a.eval y = .int .u64 8) (hz : a.eval z = .int .u64 1) (hu : a.eval u = .int .i64 5) (h : wpList Tryz.prog ops Q rest (a.put o.dst (.agg (fca wC))) w) : wpList Tryz.prog ops Q (o :: rest) a w := by
 refine Kd.event_run hgd (v := .agg (fca wC)) ?_ h
 unfold execOp
 simp only [ho, List.map_toArray, List.map_cons, List.map_nil, hx, hy, hz, hu, Sem.run_bind, bF4, Result.andThen_ok, Sem.run_pure]
theorem bS2 (w : World) (d : Int) : (Instr.build 33 #[(2, .int .u64 d)]).run Tryz.prog w = .ok (.agg (sca ⟨0, 0, d, 0, zkey, false, 0, 0⟩)) w := by kernel_rfl
theorem build_S2 (x : Operand) (ho : o.op = .build 33 #[(2, x)]) (hgd : o.guard = none) {d : Int} (hx : a.eval x = .int .u64 d) (h : wpList Tryz.prog ops Q rest (a.put o.dst (.agg (sca ⟨0, 0, d, 0, zkey, false, 0, 0⟩))) w) : wpList Tryz.prog ops Q (o :: rest) a w := by
 refine Kd.event_run hgd (v := .agg (sca ⟨0, 0, d, 0, zkey, false, 0, 0⟩)) ?_ h
 unfold execOp
 simp only [ho, List.map_toArray, List.map_cons, List.map_nil, hx, Sem.run_bind, bS2, Result.andThen_ok, Sem.run_pure]
theorem bA1 (w : World) : (Instr.build 38 #[(0, .int .i64 1), (1, .agg (fca wF1)), (2, .agg (sca wX1))]).run Tryz.prog w = .ok (.agg (aca wA1 (.slice none 0 0))) w := by kernel_rfl
theorem build_A012 (x y z : Operand) (ho : o.op = .build 38 #[(0, x), (1, y), (2, z)]) (hgd : o.guard = none) (hx : a.eval x = .int .i64 1) (hy : a.eval y = .agg (fca wF1)) (hz : a.eval z = .agg (sca wX1)) (h : wpList Tryz.prog ops Q rest (a.put o.dst (.agg (aca wA1 (.slice none 0 0)))) w) : wpList Tryz.prog ops Q (o :: rest) a w := by
 refine Kd.event_run hgd (v := .agg (aca wA1 (.slice none 0 0))) ?_ h
 unfold execOp
 simp only [ho, List.map_toArray, List.map_cons, List.map_nil, hx, hy, hz, Sem.run_bind, bA1, Result.andThen_ok, Sem.run_pure]
theorem bA2 (w : World) (t : S24) (v : Value) : (Instr.build 38 #[(0, .int .i64 1), (1, .agg (fca wF2)), (3, .agg #[.int .i64 t.f0, .int .i64 t.f1, v])]).run Tryz.prog w = .ok (.agg (aca ⟨1, wF2, zses, t⟩ v)) w := by kernel_rfl
theorem build_A2 (x y z : Operand) (ho : o.op = .build 38 #[(0, x), (1, y), (3, z)]) (hgd : o.guard = none) (t : S24) {v : Value} (hx : a.eval x = .int .i64 1) (hy : a.eval y = .agg (fca wF2)) (hz : a.eval z = .agg #[.int .i64 t.f0, .int .i64 t.f1, v]) (h : wpList Tryz.prog ops Q rest (a.put o.dst (.agg (aca ⟨1, wF2, zses, t⟩ v))) w) : wpList Tryz.prog ops Q (o :: rest) a w := by
 refine Kd.event_run hgd (v := .agg (aca ⟨1, wF2, zses, t⟩ v)) ?_ h
 unfold execOp
 simp only [ho, List.map_toArray, List.map_cons, List.map_nil, hx, hy, hz, Sem.run_bind, bA2, Result.andThen_ok, Sem.run_pure]
theorem bA3 (w : World) (t : S24) (v : Value) : (Instr.build 38 #[(0, .int .i64 1), (1, .agg (fca wC)), (3, .agg #[.int .i64 t.f0, .int .i64 t.f1, v])]).run Tryz.prog w = .ok (.agg (aca ⟨1, wC, zses, t⟩ v)) w := by kernel_rfl
theorem build_A3 (x y z : Operand) (ho : o.op = .build 38 #[(0, x), (1, y), (3, z)]) (hgd : o.guard = none) (t : S24) {v : Value} (hx : a.eval x = .int .i64 1) (hy : a.eval y = .agg (fca wC)) (hz : a.eval z = .agg #[.int .i64 t.f0, .int .i64 t.f1, v]) (h : wpList Tryz.prog ops Q rest (a.put o.dst (.agg (aca ⟨1, wC, zses, t⟩ v))) w) : wpList Tryz.prog ops Q (o :: rest) a w := by
 refine Kd.event_run hgd (v := .agg (aca ⟨1, wC, zses, t⟩ v)) ?_ h
 unfold execOp
 simp only [ho, List.map_toArray, List.map_cons, List.map_nil, hx, hy, hz, Sem.run_bind, bA3, Result.andThen_ok, Sem.run_pure]
end
section
variable {ops : Array Oper} {rest : List Oper} {o : Oper} {a : Act} {w : World} {Q : Exit → Act → World → Prop} {K : Act → World → Prop}
theorem store_Ms (hw : Region.wanted o (yielded ops a.tmps) = true) (x y : Operand) (ho : o.op = .store 42 x y) (hN : o.dst = none) {g : Nat} {M : Mdl} {A1 A2 A3 A4 : Option Addr} {c1 c2 c3 c4 n1 n2 n3 n4 : Nat} {old : Array Value} (hold : old.size = 7) (hx : a.eval x = .pointer (some ⟨g, 0, none⟩)) (hy : a.eval y = .agg (mca M (.slice A1 n1 c1) (.slice A2 n2 c2) (.slice A3 n3 c3) (.slice A4 n4 c4)))
  (hg : w.heap[g]? = some (.cells old 42 (0, 0)))
  (h : ∀ w1 : World, w1.heap[g]? = some (.cells (mca M (.slice A1 n1 c1) (.slice A2 n2 c2) (.slice A3 n3 c3) (.slice A4 n4 c4)) 42 (0, 0)) → w1.heap.size = w.heap.size → (∀ B w0, B ≤ g → Below B w0 w → Below B w0 w1) → (∀ k, k ≠ g → w1.heap[k]? = w.heap[k]?) → K a w1) :
  if Region.wanted o (yielded ops a.tmps) = true then Oper.wp Tryz.prog o a w K Q else K (a.put none undef) w := by
 rw [if_pos hw]
 refine wp_store_row 42 x y ho g (mca M _ _ _ _) hx hy 42 old hg (by rw [infoM]; rfl) (by rw [hold]; rfl) ?_ ?_
 ·simp [mca, Value.oneCell']
 ·rw [hN]
  refine h _ (setRow_heap _ _ _ _ _ _ hg) (size_setRow _ _ _) (fun B w0 hB hb => ?_) (fun k hk => setRow_other _ _ _ _ hk)
  refine ⟨hb.os, hb.tape, hb.output, (by simpa only [size_setRow] using hb.size), fun k hk => ?_⟩
  rw [setRow_other _ _ _ _ (by omega)]
  exact hb.block k hk
end
theorem mdO_far {w w' : World} {r : Nat → Prop} {M : Mdl} {vU vT vK vD : Value} (h : MdO w r M vU vT vK vD) (hf : ∀ k, ¬ r k → w'.heap[k]? = w.heap[k]?) : MdO w' r M vU vT vK vD :=
 ⟨Kd.V_step h.1 fun k hk _ => hf k hk, Kd.V_step h.2.1 fun k hk _ => hf k hk, Kd.V_step h.2.2.1 fun k hk _ => hf k hk, Kd.V_step h.2.2.2 fun k hk _ => hf k hk⟩
theorem mdO_less {w : World} {r r' : Nat → Prop} {M : Mdl} {vU vT vK vD : Value} (h : MdO w r M vU vT vK vD) (hr : ∀ k, r' k → r k) : MdO w r' M vU vT vK vD :=
 ⟨Kd.V_mono h.1 fun k hk e => hk (hr k e), Kd.V_mono h.2.1 fun k hk e => hk (hr k e), Kd.V_mono h.2.2.1 fun k hk e => hk (hr k e), Kd.V_mono h.2.2.2 fun k hk e => hk (hr k e)⟩
set_option maxHeartbeats 4000000 in
theorem ufew_any (l : List Usr) (A : Option Addr) (c : Nat) (w : World) (hr : kU.C w A l.length l) :
  Calls Tryz.prog 7 #[.slice A l.length c] w fun e w' => ∃ b, e = .returned (.bool b) ∧ (b = true → l.length ≤ 10 ∧ ∀ u ∈ l, u.key.length ≤ 100) ∧ w = w' := by
 have hml : l.length ≤ 9223372036854775807 := hr.2.1
 have HC := aq_ hr
 clear hr
 go_enter Tryz.func7, Tryz.ntmps7
 go_wp2
 go_loopw [3] (fun v3 wr => ∃ i : Nat, i ≤ l.length ∧ i ≤ 11 ∧ v3 = .int .i64 i ∧ Aside0 (∀ u ∈ l.take i, u.key.length ≤ 100) ∧ wr = w) (fun v3 _ => 12 - (intOf v3).toNat)
 case atStart => exact ⟨0, by omega, by omega, rfl, ⟨by simp⟩, rfl⟩
 case round =>
  obtain ⟨i, hi, h11, rfl, HK, rfl⟩ := hrel
  by_cases hlt : i < l.length
  ·have hd : decide ((i : Int) < l.length) = true := by simp; omega
   by_cases h10 : i ≤ 10
   ·have hd2 : decide ((i : Int) ≤ 10) = true := by simp; omega
    obtain ⟨ad, A2, c2, rfl, a0, a1, a2, hc2, hk2⟩ := at_U HC.out i hlt
    by_cases hk : (rdU l i).key.length ≤ 100
    ·have hd3 : decide (100 < ((rdU l i).key.length : Int)) = false := by simp; omega
     go_wp2
     go_roundw
     case rel => exact ⟨i + 1, by omega, by omega, by go_num, ⟨fun u hu => by
      rw [List.take_succ_eq_append_getElem hlt] at hu
      rcases List.mem_append.1 hu with hu | hu
      ·exact HK.out u hu
      ·rw [List.mem_singleton.1 hu, ← rdU_get l hlt]
       exact hk⟩, trivial⟩
     case measure => simp [intOf]; omega
    ·have hd3 : decide (100 < ((rdU l i).key.length : Int)) = true := by simp; omega
     go_wp2
     go_ret
     exact ⟨_, rfl, (fun h => by cases h), rfl⟩
   ·have hd2 : decide ((i : Int) ≤ 10) = false := by simp; omega
    have hd4 : decide ((l.length : Int) ≤ 10) = false := by simp; omega
    go_wp2
    go_ret
    exact ⟨_, rfl, (fun h => by cases h), rfl⟩
  ·obtain rfl : i = l.length := by omega
   have hd : decide ((l.length : Int) < l.length) = false := by simp
   go_wp2
   go_ret
   refine ⟨_, rfl, fun h => ⟨by have := of_decide_eq_true h; omega, fun u hu => HK.out u (by rw [List.take_length]; exact hu)⟩, rfl⟩
theorem lsize_take {l : List S24} {i : Nat} (h : i < l.length) : lsize (l.take (i + 1)) = lsize (l.take i) + tsize (rd_T24 l i) := by
 have ap : ∀ a b : List S24, lsize (a ++ b) = lsize a + lsize b := by
  intro a b
  induction a with
  | nil => simp [lsize]
  | cons x a ih => rw [List.cons_append, lsize, lsize, ih]; omega
 rw [rdT_take l h, ap]
 simp [lsize]
set_option maxHeartbeats 4000000 in
theorem nodes_any : ∀ (k : Nat) (x : S24) (A : Option Addr) (c : Nat) (most deep : Int) (w : World), deep.toNat ≤ k → deep ≤ 20 → k ≤ 20 → 0 ≤ most ∧ most ≤ 150 → k24.C w A x.f2.length x.f2 →
  Calls Tryz.prog 50 #[.agg #[.int .i64 x.f0, .int .i64 x.f1, .slice A x.f2.length c], .int .i64 most, .int .i64 deep] w fun e w' => ∃ n : Int, e = .returned (.int .i64 n) ∧ (0 ≤ n ∧ n ≤ 151 * (k + 1) ∧ (n ≤ most → (tsize x : Int) = n)) ∧ Below w.heap.size w w' := by
 intro k
 induction k with
 | zero =>
  intro x A c most deep w hk hd hk20 hm hC
  have h0 : decide (deep ≤ 0) = true := by simp; omega
  have hw : wrap64 (most + 1) = most + 1 := w64 (by omega) (by omega)
  go_enter Tryz.func50, Tryz.ntmps50
  go_wp2
  go_ret
  exact ⟨_, rfl, ⟨by omega, by omega, by omega⟩, below_alloc (Below.refl _ _) _⟩
 | succ k ih =>
  intro x A c most deep w hk hd hk20 hm hC
  by_cases hz : deep ≤ 0
  ·have h0 : decide (deep ≤ 0) = true := by simp; omega
   have hw : wrap64 (most + 1) = most + 1 := w64 (by omega) (by omega)
   go_enter Tryz.func50, Tryz.ntmps50
   go_wp2
   go_ret
   exact ⟨_, rfl, ⟨by omega, by omega, by omega⟩, below_alloc (Below.refl _ _) _⟩
  have h0 : decide (deep ≤ 0) = false := by simp; omega
  have hw1 : wrap64 (deep - 1) = deep - 1 := w64 (by omega) (by omega)
  have hml : x.f2.length ≤ 9223372036854775807 := hC.2.1
  have HC := aq_ hC
  have IH := aq_ ih
  have HK := aq_ hk
  have HD := aq_ hd
  have HM := aq_ hm
  have H20 := aq_ hk20
  clear hC ih
  go_enter Tryz.func50, Tryz.ntmps50
  go_upto_region 5 with fail
  obtain ⟨g, hg⟩ : ∃ g, g = w.heap.size := ⟨_, rfl⟩
  obtain ⟨w1, hw⟩ : ∃ w1, w1 = w.alloc (.cells #[.int .i64 x.f0, .int .i64 x.f1, .slice A x.f2.length c] 36) := ⟨_, rfl⟩
  rw [← hw, ← hg]
  have XB := aq_ (show w1.heap[g]? = some (.cells #[.int .i64 x.f0, .int .i64 x.f1, .slice A x.f2.length c] 36 (0, 0)) by rw [hw, hg]; exact blk_new _ _)
  have HB := aq_ (show Below w.heap.size w w1 by rw [hw]; exact below_alloc (Below.refl _ _) _)
  have LB := aq_ (show w.heap.size ≤ w1.heap.size from HB.out.size)
  clear hw hg
  go_loopw [7, 8] (fun v7 v8 wr => ∃ (i : Nat) (n : Int), i ≤ x.f2.length ∧ v8 = .int .i64 i ∧ v7 = .int .i64 n ∧ Aside0 (0 ≤ n ∧ n ≤ 151 * (k + 2) ∧ (n ≤ most → ((1 + lsize (x.f2.take i) : Nat) : Int) = n)) ∧ Aside0 (wr.heap[g]? = some (.cells #[.int .i64 x.f0, .int .i64 x.f1, .slice A x.f2.length c] 36 (0, 0))) ∧ Aside0 (Below w.heap.size w wr) ∧ Aside0 (w.heap.size ≤ wr.heap.size)) (fun v7 v8 _ => x.f2.length - (intOf v8).toNat)
  case atStart => exact ⟨0, 1, by omega, rfl, rfl, ⟨⟨by omega, by omega, fun _ => by simp [lsize]⟩⟩, XB, HB, LB⟩
  case round =>
   clear XB HB LB
   obtain ⟨i, n, hi, rfl, rfl, HN, XB, HB, LB⟩ := hrel
   obtain ⟨⟨p0, p1, p2⟩, _⟩ := cells3 XB.out
   by_cases hlt : i < x.f2.length
   ·have hd1 : decide ((i : Int) < x.f2.length) = true := by simp; omega
    by_cases hnm : n ≤ most
    ·have hm2 : decide (n ≤ most) = true := by simp; omega
     have hw2 : wrap64 (most - n) = most - n := by have := HN.out; exact w64 (by omega) (by omega)
     obtain ⟨ad, A2, c2, rfl, a0, a1, a2, hc2, hC2⟩ := at_T24 (Kd.C_below HC.out HB.out) (i : Int) (by omega) (by omega)
     rw [Int.toNat_natCast] at a0 a1 a2
     have HC2 := aq_ hC2
     clear hC2
     go_wp2_with ((go_at_call 50; (with_reducible refine (IH.out (rd_T24 x.f2 (i : Int)) A2 c2 (most - n) (deep - 1) _ (by have := HK.out; omega) (by have := HD.out; omega) (by have := H20.out; omega) (by have := HN.out; have := HM.out; omega) HC2.out).mono ?_)); rintro e w3 ⟨n2, rfl, hn2, hb⟩; have hw3 : wrap64 (n + n2) = n + n2 := (by have h1_ := HN.out; have h2_ := H20.out; exact w64 (by omega) (by omega)); have HN2 := aq_ hn2; have XB' := aq_ (blk_below XB.out hb); have HB' := aq_ (HB.out.trans (hb.mono LB.out)); have LB' := aq_ (Nat.le_trans LB.out hb.size); clear hb hn2)
     go_roundw
     case rel =>
      refine ⟨i + 1, n + n2, by omega, by go_num, by rw [hw3], ⟨?_⟩, XB', HB', LB'⟩
      obtain ⟨h1, h2, h3⟩ := HN.out
      obtain ⟨h4, h5, h6⟩ := HN2.out
      have hm' := HM.out
      refine ⟨by omega, by omega, fun hh => ?_⟩
      have e3 := h3 hnm
      have e6 := h6 (by omega)
      rw [lsize_take hlt]
      omega
     case measure => simp [intOf]; omega
    ·have hm2 : decide (n ≤ most) = false := by simp; omega
     go_wp2
     go_ret
     exact ⟨_, rfl, ⟨HN.out.1, by have := HN.out.2.1; omega, by omega⟩, HB.out⟩
   ·obtain rfl : i = x.f2.length := by omega
    have hd1 : decide ((x.f2.length : Int) < x.f2.length) = false := by simp
    go_wp2
    go_ret
    refine ⟨_, rfl, ⟨HN.out.1, by have := HN.out.2.1; omega, fun hh => ?_⟩, HB.out⟩
    have h3 := HN.out.2.2 hh
    rw [List.take_length] at h3
    rw [tsize_eq]
    omega
theorem light_any (x : S24) (A : Option Addr) (c : Nat) (w : World) (hC : k24.C w A x.f2.length x.f2) :
  Calls Tryz.prog 24 #[.agg #[.int .i64 x.f0, .int .i64 x.f1, .slice A x.f2.length c]] w fun e w' => ∃ b, e = .returned (.bool b) ∧ (b = true → tsize x ≤ 150) ∧ Below w.heap.size w w' := by
 have HC := aq_ hC
 clear hC
 go_enter Tryz.func24, Tryz.ntmps24
 obtain ⟨⟨q0, q1, q2⟩, _⟩ := cells3 (blk_new w (.cells #[.int .i64 x.f0, .int .i64 x.f1, .slice A x.f2.length c] 36))
 go_wp2_with ((go_at_call 50; (with_reducible refine (nodes_any 20 x A c 150 20 _ (by decide) (by decide) (by decide) (by decide) (Kd.C_alloc HC.out _)).mono ?_)); rintro e w3 ⟨n2, rfl, hn, hb⟩; have HN := aq_ hn; have HB := aq_ (below_step (below_alloc (Below.refl _ _) _) hb); clear hb hn)
 go_ret
 exact ⟨_, rfl, (fun h => by have := of_decide_eq_true h; have := HN.out.2.2 this; omega), HB.out⟩
set_option maxHeartbeats 4000000 in
theorem fewActs_any (l : List Ac) (A : Option Addr) (c : Nat) (w : World) (hr : kA.C w A l.length l) :
  Calls Tryz.prog 8 #[.slice A l.length c] w fun e w' => ∃ b, e = .returned (.bool b) ∧ (b = true → l.length ≤ 40 ∧ ∀ a ∈ l, tsize a.T ≤ 150) ∧ Below w.heap.size w w' := by
 have hml : l.length ≤ 9223372036854775807 := hr.2.1
 have HC := aq_ hr
 clear hr
 have HB := aq_ (Below.refl w.heap.size w)
 go_enter Tryz.func8, Tryz.ntmps8
 go_wp2
 go_loopw [3, 4] (fun v3 v4 wr => ∃ i : Nat, i ≤ l.length ∧ i ≤ 41 ∧ v3 = .int .i64 i ∧ Aside0 (∀ a ∈ l.take i, tsize a.T ≤ 150) ∧ Aside0 (Below w.heap.size w wr)) (fun v3 v4 _ => 42 - (intOf v3).toNat)
 case atStart => exact ⟨0, by omega, by omega, rfl, ⟨by simp⟩, HB⟩
 case round =>
  clear HB
  obtain ⟨i, hi, h11, rfl, HT, HB⟩ := hrel
  by_cases hlt : i < l.length
  ·have hd : decide ((i : Int) < l.length) = true := by simp; omega
   by_cases h10 : i ≤ 40
   ·have hd2 : decide ((i : Int) ≤ 40) = true := by simp; omega
    obtain ⟨a, ha⟩ : ∃ a, l[i]? = some a := ⟨_, List.getElem?_eq_getElem hlt⟩
    obtain ⟨ad, A2, c2, rfl, hcs, hc2, hC2⟩ := at_A (Kd.C_below HC.out HB.out) i hlt a ha
    have HC2 := aq_ hC2
    obtain ⟨t0, t1, t2⟩ := acts_T hcs
    have HA := aq_ ha
    clear hC2 hcs ha
    go_upto_region 5 with ((go_at_call 24; (with_reducible refine (light_any a.T A2 c2 _ HC2.out).mono ?_)); rintro e w3 ⟨b, rfl, hl, hb⟩; have HL := aq_ hl; have HB' := aq_ (below_step HB.out hb); clear hb hl)
    cases b
    ·go_wp2
     go_ret
     exact ⟨_, rfl, (fun h => by cases h), HB'.out⟩
    ·go_wp2
     go_roundw
     case rel => exact ⟨i + 1, by omega, by omega, by go_num, ⟨fun b hb => by
      rw [take_snoc HA.out] at hb
      rcases List.mem_append.1 hb with hb | hb
      ·exact HT.out b hb
      ·rw [List.mem_singleton.1 hb]
       exact HL.out rfl⟩, HB'⟩
     case measure => simp [intOf]; omega
   ·have hd2 : decide ((i : Int) ≤ 40) = false := by simp; omega
    have hd4 : decide ((l.length : Int) ≤ 40) = false := by simp; omega
    go_wp2
    go_ret
    exact ⟨_, rfl, (fun h => by cases h), HB.out⟩
  ·obtain rfl : i = l.length := by omega
   have hd : decide ((l.length : Int) < l.length) = false := by simp
   go_wp2
   go_ret
   exact ⟨_, rfl, (fun h => ⟨by have := of_decide_eq_true h; omega, fun a ha => HT.out a (by rw [List.take_length]; exact ha)⟩), HB.out⟩
theorem infoErr : (Tryz.prog.info? 52).map (fun i => (i.zero, i.size, i.bytes)) = some (some (.int .i64 0), 1, 8) := by kernel_rfl
theorem mdO_grown {W w5 : World} {rb : Nat → Prop} {vE v1 : Value} {M : Mdl} {vU vT vK vD : Value} (h : MdO W (fun k => rb k ∨ vE.ownBlock = some k) M vU vT vK vD) (hg : W.grownBy w5 vE.ownBlock) (hat : v1.ownBlock = vE.ownBlock ∨ ∃ b, v1.ownBlock = some b ∧ W.heap.size ≤ b) : MdO w5 (fun k => rb k ∨ v1.ownBlock = some k) M vU vT vK vD := by
 have ok : ∀ k, (¬ (rb k ∨ vE.ownBlock = some k) ∧ k < W.heap.size) → ¬ (rb k ∨ v1.ownBlock = some k) := by
  rintro k ⟨hk, hl⟩ (e | e)
  ·exact hk (.inl e)
  ·rcases hat with h | ⟨b, h, hb⟩
   ·exact hk (.inr (h ▸ e))
   ·rw [h] at e
    cases e
    omega
 have far : ∀ k, (¬ (rb k ∨ vE.ownBlock = some k) ∧ k < W.heap.size) → k < W.heap.size → w5.heap[k]? = W.heap[k]? := fun k hk hl => hg.block k hl fun e => hk.1 (.inr e.symm)
 obtain ⟨h1, h2, h3, h4⟩ := h
 exact ⟨Kd.V_mono (Kd.V_step (Kd.V_bound h1) far) ok, Kd.V_mono (Kd.V_step (Kd.V_bound h2) far) ok, Kd.V_mono (Kd.V_step (Kd.V_bound h3) far) ok, Kd.V_mono (Kd.V_step (Kd.V_bound h4) far) ok⟩
theorem small_run {M : Mdl} {n k : Nat} (h : Small M n k) : ∀ (l : List Ac), (∀ a ∈ l, wfS a.X ∧ wfF a.F) → Small (runF M l) (n + l.length) k := by
 intro l
 induction l generalizing M n with
 | nil => exact fun _ => h
 | cons a l ih =>
  intro hw
  have := ih (small_step h (hw a (by simp)).1 (hw a (by simp)).2) fun b hb => hw b (by simp [hb])
  rw [List.length_cons, show n + (l.length + 1) = n + 1 + l.length by omega]
  exact this
end Go.Proofs.YtdinphnljokigaaGreat.P
end
