/- What LawSymOnce rests on, part 34: several texts put together. -/
import Derived.Test.YtdinphnljokigaaGreatQ33
import Derived.Test.YtdinphnljokigaaGreatQ2
set_option linter.unusedVariables false
set_option linter.unnecessarySimpa false
set_option linter.unusedSimpArgs false
set_option maxRecDepth 100000
section
namespace Go.Proofs.YtdinphnljokigaaGreat.P
open Go.RowKit Go.Lib Go.Proofs.YtdinphnljokigaaGreatW.PrintWords Go.Proofs.YtdinphnljokigaaGreatW.PrintLast Go.Proofs.YtdinphnljokigaaGreatW.PrintMore
theorem infoErr : (Tryz.prog.info? 52).map (fun i => (i.zero, i.size, i.bytes)) = some (some (.int .i64 0), 1, 8) := by kernel_rfl
theorem mdO_grown {W w5 : World} {rb : Nat → Prop} {vE v1 : Value} {M : Mdl} {vU vT vK vD : Value} (h : MdO W (fun k => rb k ∨ vE.ownBlock = some k) M vU vT vK vD) (hg : W.grownBy w5 vE.ownBlock) (hat : v1.ownBlock = vE.ownBlock ∨ ∃ b, v1.ownBlock = some b ∧ W.heap.size ≤ b) : MdO w5 (fun k => rb k ∨ v1.ownBlock = some k) M vU vT vK vD := by
 have ok : ∀ k, (¬ (rb k ∨ vE.ownBlock = some k) ∧ k < W.heap.size) → ¬ (rb k ∨ v1.ownBlock = some k) := by
  rintro k ⟨hk, hl⟩ (e | e)
  ·exact hk (.inl e)
  ·rcases hat with h | ⟨b, h, hb⟩
   ·exact hk (.inr (h ▸ e))
   ·rw [h] at e
    cases e
    omega
 have far : ∀ k, (¬ (rb k ∨ vE.ownBlock = some k) ∧ k < W.heap.size) → k < W.heap.size → w5.heap[k]? = W.heap[k]? := fun k hk hl => hg.block k hl fun e => hk.1 (.inr e.symm)
 obtain ⟨h1, h2, h3, h4⟩ := h
 exact ⟨Kd.V_mono (Kd.V_step (Kd.V_bound h1) far) ok, Kd.V_mono (Kd.V_step (Kd.V_bound h2) far) ok, Kd.V_mono (Kd.V_step (Kd.V_bound h3) far) ok, Kd.V_mono (Kd.V_step (Kd.V_bound h4) far) ok⟩
theorem step_run (M : Mdl) (l : List Ac) (a : Ac) (vU vT vK vD vA : Value) (w : World) (rq : Nat → Prop) (hq : ∀ k, rq k → k < w.heap.size) (hm : MdO w rq (runF M l) vU vT vK vD) (hs : smallM (runF M l) ∧ ∀ x ∈ (runF M l).T, wfS x) (hw : wfS a.X ∧ wfF a.F) (hA : Told k24 w vA a.T.f2) :
  Calls Tryz.prog 12 #[.agg (mca (runF M l) vU vT vK vD), .agg (aca a vA)] w fun e w' => ∃ vU' vT' vK' vD', e = .returned (.tuple #[.agg (mca (stepM (runF M l) a).1 vU' vT' vK' vD'), .int .i64 (stepM (runF M l) a).2]) ∧ MdO w' rq (stepM (runF M l) a).1 vU' vT' vK' vD' ∧ Below w.heap.size w w' :=
 step_any _ a vU vT vK vD vA w rq hq hm hs.1 hw.1 hw.2 hs.2 hA
theorem small_run {M : Mdl} {n k : Nat} (h : Small M n k) : ∀ (l : List Ac), (∀ a ∈ l, wfS a.X ∧ wfF a.F) → Small (runF M l) (n + l.length) k := by
 intro l
 induction l generalizing M n with
 | nil => exact fun _ => h
 | cons a l ih =>
  intro hw
  have := ih (small_step h (hw a (by simp)).1 (hw a (by simp)).2) fun b hb => hw b (by simp [hb])
  rw [List.length_cons, show n + (l.length + 1) = n + 1 + l.length by omega]
  exact this
set_option maxHeartbeats 8000000 in
theorem run_any (M : Mdl) (l : List Ac) (vU vT vK vD : Value) (A : Option Addr) (c : Nat) (w : World) (n k : Nat) (hm : MdC w M vU vT vK vD) (hs : Small M n k) (hn : n + l.length + k < 1000000) (hr : kA.C w A l.length l) (hw : ∀ a ∈ l, wfS a.X ∧ wfF a.F) :
  Calls Tryz.prog 9 #[.agg (mca M vU vT vK vD), .slice A l.length c] w fun e w' => ∃ vU' vT' vK' vD' vE, e = .returned (.tuple #[.agg (mca (runF M l) vU' vT' vK' vD'), vE]) ∧ MdC w' (runF M l) vU' vT' vK' vD' ∧ Below w.heap.size w w' := by
 have HMC := aq_ hm
 have HSM := aq_ (small_of hs (by omega))
 have HSL := aq_ hs
 have NL := aq_ (show n + l.length + k < 1000000 from hn)
 have CA := aq_ hr
 have WF := aq_ hw
 have HB := aq_ (Below.refl w.heap.size w)
 have LW := aq_ (Nat.le_refl w.heap.size)
 have hml : l.length ≤ 9223372036854775807 := hr.2.1
 clear hm hs hn hr hw
 go_enter Tryz.func9, Tryz.ntmps9
 go_upto_region 1 with (first
  | ((with_reducible refine box_Mo (.tmp 0) (M := M) (vU := vU) (vT := vT) (vK := vK) (vD := vD) rfl rfl rfl ?_); intro g2 hg w1 hbox hb; have G2 := aq_ (show w.heap.size ≤ g2 from Nat.le_of_eq hg.symm); replace HB := aq_ (HB.out.trans (Below.mono hb LW.out)); replace LW := aq_ (Nat.le_trans LW.out (Below.size hb)); have X2 := aq_ hbox; clear hg hbox hb)
  | ((with_reducible refine alloc_Mo rfl rfl ?_); intro g4 hg w2 hbox hb; have G4 := aq_ (show w.heap.size ≤ g4 by have := LW.out; omega); have N24 := aq_ (show g4 ≠ g2 by have := blk_lt X2.out; omega); replace HB := aq_ (HB.out.trans (Below.mono hb LW.out)); replace LW := aq_ (Nat.le_trans LW.out (Below.size hb)); replace X2 := aq_ (blk_below X2.out hb); have X4 := aq_ hbox; clear hg hbox hb))
 have GL := aq_ (show ∀ k, k = g2 ∨ k = g4 → k < w2.heap.size from fun k hk => hk.elim (fun e => e ▸ blk_lt X2.out) (fun e => e ▸ blk_lt X4.out))
 have M0 := aq_ (mdO_of (r := fun k => k = g2 ∨ k = g4) HMC.out HB.out (fun k hk => hk.elim (fun e => e ▸ G2.out) (fun e => e ▸ G4.out)))
 go_upto_region 2 with (first
  | (with_reducible refine load_Mo (.tmp 2) rfl rfl rfl X2.out ?_)
  | ((go_at_call 25; (with_reducible refine (sown_any M vU vT vK vD _ (fun k => k = g2 ∨ k = g4) GL.out M0.out HSM.out).mono ?_)); rintro e w4 ⟨vU', vT', vK', vD', rfl, hO, hb⟩; obtain ⟨⟨U0, cU0, rfl⟩, ⟨T0, cT0, rfl⟩, ⟨K0, cK0, rfl⟩, ⟨D0, cD0, rfl⟩⟩ := mdC_slices (ownM_told hO); have MO := aq_ (ownM_mdO hO); replace HB := aq_ (HB.out.trans (Below.mono hb LW.out)); replace LW := aq_ (Nat.le_trans LW.out (Below.size hb)); replace X2 := aq_ (blk_below X2.out hb); replace X4 := aq_ (blk_below X4.out hb); clear hO hb)
  | ((with_reducible refine store_Mo (.tmp 2) (.tmp 12) rfl rfl rfl rfl rfl rfl rfl rfl rfl rfl X2.out ?_); intro w5 hx1 hs1 hb1 hf1; replace HB := aq_ (hb1 _ _ G2.out HB.out); replace LW := aq_ (show w.heap.size ≤ w5.heap.size by rw [hs1]; exact LW.out); replace X2 := aq_ hx1; replace X4 := aq_ ((hf1 g4 N24.out).trans X4.out); replace MO := aq_ (mdO_far MO.out fun k hk => hf1 k fun e => hk (.inl e)); clear hx1 hs1 hb1 hf1))
 obtain ⟨B0, hB0⟩ : ∃ B0, B0 = w5.heap.size := ⟨_, rfl⟩
 have L2 := aq_ (show g2 < B0 by have := blk_lt X2.out; omega)
 have L4 := aq_ (show g4 < B0 by have := blk_lt X4.out; omega)
 have LB0 := aq_ (show w.heap.size ≤ B0 by have := LW.out; omega)
 have LD := aq_ (show B0 ≤ w5.heap.size by omega)
 clear GL M0 HMC HSM hB0
 go_wp2
 go_loopw [6, 8, 9, 10, 15] (fun v6 v8 v9 v10 v15 wr => ∃ (i : Nat) (vE : Value) (U0 T0 K0 D0 : Option Addr) (cU0 cT0 cK0 cD0 : Nat) (M0 : Mdl), i ≤ l.length ∧ v15 = .int .i64 i ∧ v6 = vE ∧ Aside0 (M0 = runF M (l.take i)) ∧ Aside0 (Kd.R (Kd.int .i64) 52 wr B0 (fun k => B0 ≤ k) vE (runE M (l.take i))) ∧ Aside0 (wr.heap[g2]? = some (.cells (mca M0 (.slice U0 M0.U.length cU0) (.slice T0 M0.T.length cT0) (.slice K0 M0.K.length cK0) (.slice D0 M0.D.length cD0)) 42 (0, 0))) ∧ Aside0 (wr.heap[g4]? = some (.cells zmca 42 (0, 0))) ∧ Aside0 (MdO wr (fun k => (k = g2 ∨ k = g4) ∨ vE.ownBlock = some k) M0 (.slice U0 M0.U.length cU0) (.slice T0 M0.T.length cT0) (.slice K0 M0.K.length cK0) (.slice D0 M0.D.length cD0)) ∧ Aside0 (Below w.heap.size w wr) ∧ Aside0 (w.heap.size ≤ wr.heap.size) ∧ Aside0 (B0 ≤ wr.heap.size)) (fun v6 v8 v9 v10 v15 _ => l.length - (intOf v15).toNat)
 case atStart => exact ⟨0, _, _, _, _, _, _, _, _, _, M, by omega, rfl, rfl, ⟨rfl⟩, ⟨Kd.R_nil _ _ _ _ _⟩, X2, X4, ⟨mdO_less MO.out (fun k hk => hk.elim id (fun e => by simp [Value.ownBlock] at e))⟩, HB, LW, LD⟩
 case round =>
  clear X2 X4 MO HB LW LD
  obtain ⟨i, vE, U0, T0, K0, D0, cU0, cT0, cK0, cD0, M0, hi, rfl, rfl, HM0, RE, X2, X4, ME, HB, LW, LD⟩ := hrel
  by_cases hlt : i < l.length
  ·have hd : decide ((i : Int) < l.length) = true := by simp; omega
   obtain ⟨a, ha⟩ : ∃ a, l[i]? = some a := ⟨_, List.getElem?_eq_getElem hlt⟩
   obtain ⟨ad, A2, c2, hA, hcs, hc2, hC2⟩ := at_A (Kd.C_below CA.out HB.out) i hlt a ha
   have CS := aq_ hcs
   have TT := aq_ (show Told k24 wr (.slice A2 a.T.f2.length c2) a.T.f2 from ⟨A2, c2, rfl, hc2, hC2⟩)
   have SM := aq_ (show smallM (runF M (l.take i)) ∧ ∀ x ∈ (runF M (l.take i)).T, wfS x from ⟨small_of (small_run HSL.out (l.take i) fun b hb => WF.out b (List.mem_of_mem_take hb)) (by have := NL.out; rw [List.length_take]; omega), (small_run HSL.out (l.take i) fun b hb => WF.out b (List.mem_of_mem_take hb)).t.2⟩)
   have WA := aq_ (WF.out a (List.mem_of_getElem? ha))
   obtain ⟨M1, hM1⟩ : ∃ M1, (stepM (runF M (l.take i)) a).1 = M1 := ⟨_, rfl⟩
   obtain ⟨e1, he1⟩ : ∃ e1, (stepM (runF M (l.take i)) a).2 = e1 := ⟨_, rfl⟩
   have HT1 := aq_ (show runF M (l.take (i + 1)) = M1 by rw [take_snoc ha, runF_snoc, hM1])
   have HE1 := aq_ (show runE M (l.take (i + 1)) = runE M (l.take i) ++ [e1] by rw [take_snoc ha, runE_snoc, he1])
   have HM1 := aq_ hM1
   have HE0 := aq_ he1
   have HA := aq_ ha
   obtain rfl := HM0.out
   clear hcs hC2 hM1 he1 ha hc2
   subst hA
   go_upto_region 6 with (first
  | ((with_reducible refine load_Ac (.tmp 17) rfl rfl (p := ad.add (i * 83)) rfl CS.out ?_); clear CS)
  | ((with_reducible refine alloc_Ac rfl rfl ?_); intro g8 hg w6 hbox hb; have ALB := aq_ hb; have ALG := aq_ hg; have TB := aq_ hbox; clear hg hbox hb)
  | ((with_reducible refine store_Ac2 (.tmp 8) (.tmp 18) rfl rfl rfl rfl rfl TB.out ?_); intro w6 hx1 hs1 hb1 hf1; have hbt := ALB.out.trans (hb1 _ (Nat.le_of_eq ALG.out.symm)); replace HB := aq_ (HB.out.trans (Below.mono hbt LW.out)); replace LW := aq_ (Nat.le_trans LW.out (Below.size hbt)); replace X2 := aq_ (blk_below X2.out hbt); replace X4 := aq_ (blk_below X4.out hbt); replace ME := aq_ (mdO_below ME.out hbt); replace RE := aq_ (Kd.R_below RE.out hbt); replace TT := aq_ (told_belowG TT.out hbt); replace LD := aq_ (Nat.le_trans LD.out (Below.size hbt)); have X8 := aq_ hx1; clear hx1 hs1 hb1 hf1 hbt ALB ALG TB))
   have RL := aq_ (show ∀ k, ((k = g2 ∨ k = g4) ∨ u6.ownBlock = some k) → k < w6.heap.size from fun k hk => hk.elim (fun h => h.elim (fun e => e ▸ blk_lt X2.out) (fun e => e ▸ blk_lt X4.out)) (fun e => Kd.R_lt RE.out k e))
   go_upto_region 7 with (first
  | (with_reducible refine load_Mo (.tmp 2) rfl rfl rfl X2.out ?_)
  | (with_reducible refine load_Ac (.tmp 8) rfl rfl (p := ⟨g8, 0, none⟩) rfl (boxA X8.out) ?_)
  | ((go_at_call 12; (with_reducible refine (step_run M (l.take i) a _ _ _ _ _ _ (fun k => (k = g2 ∨ k = g4) ∨ u6.ownBlock = some k) RL.out ME.out SM.out WA.out TT.out).mono ?_)); rintro e w6 ⟨vU', vT', vK', vD', rfl, hO, hb⟩; rw [HM1.out] at hO; rw [HM1.out, HE0.out]; obtain ⟨⟨U1, cU1, rfl⟩, ⟨T1, cT1, rfl⟩, ⟨K1, cK1, rfl⟩, ⟨D1, cD1, rfl⟩⟩ := mdO_slices hO; replace HB := aq_ (HB.out.trans (Below.mono hb LW.out)); replace LW := aq_ (Nat.le_trans LW.out (Below.size hb)); replace X2 := aq_ (blk_below X2.out hb); replace X4 := aq_ (blk_below X4.out hb); replace RE := aq_ (Kd.R_below RE.out hb); replace LD := aq_ (Nat.le_trans LD.out (Below.size hb)); clear ME; have ME := aq_ hO; have RE0 := aq_ RE.out; clear hO hb RL)
  | ((with_reducible refine alloc_Mo rfl rfl ?_); intro g9 hg w7 hbox hb; have ALB := aq_ hb; have ALG := aq_ hg; have N9 := aq_ (show w6.heap.size ≤ g9 from Nat.le_of_eq hg.symm); have N92 := aq_ (show g9 ≠ g2 by have := blk_lt X2.out; omega); have TB := aq_ hbox; clear hg hbox hb)
  | ((with_reducible refine store_Mo (.tmp 9) (.tmp 23) rfl rfl rfl rfl rfl rfl rfl rfl rfl rfl TB.out ?_); intro w7 hx1 hs1 hb1 hf1; have hbt := hb1 _ _ (Nat.le_of_eq ALG.out.symm) ALB.out; replace HB := aq_ (HB.out.trans (Below.mono hbt LW.out)); replace LW := aq_ (Nat.le_trans LW.out (Below.size hbt)); replace X2 := aq_ (blk_below X2.out hbt); replace X4 := aq_ (blk_below X4.out hbt); replace ME := aq_ (mdO_below ME.out hbt); replace RE := aq_ (Kd.R_below RE.out hbt); replace LD := aq_ (Nat.le_trans LD.out (Below.size hbt)); have S9 := aq_ hx1; clear hx1 hs1 hb1 hf1 hbt ALB ALG TB))
   refine start_ (n := 7) (S := fun w' => w'.heap[g9]? = some (.cells (mca M1 (.slice U1 M1.U.length cU1) (.slice T1 M1.T.length cT1) (.slice K1 M1.K.length cK1) (.slice D1 M1.D.length cD1)) 42 (0, 0))) (ds := []) #[false, false, false, false, false, false, false] (by kernel_rfl) rfl rfl ((blk_drew S9.out)) (fun hHeld => ?_)
   refine pu_ 1 (some 26) ?_ (bt_ 7 2) rfl rfl (Or.inl ⟨by rfl, ?_⟩) ?_ ?_ ?_;rotate_left;(intro w';go_simp;with_reducible rfl);rotate_left;(simp only [pt_];rfl)
   refine pu_ 2 (some 27) ?_ (bt_ 7 6) rfl rfl (Or.inl ⟨by rfl, ?_⟩) ?_ ?_ ?_;rotate_left;(intro w';go_simp;with_reducible rfl);rotate_left;(simp only [pt_];rfl)
   refine ta_ 0 (some 25) ?_ (bt_ 7 7) rfl rfl (Or.inl ⟨by rfl, ?_⟩) hHeld ?_ ?_ ?_
   rotate_left
   ·intro w' s0
    rw [exec_loadM (.tmp 9) (by rfl) (by rfl) s0]
   rotate_left
   ·simp only [pt_]
    rfl
   refine one_ (i := 3) (N := some 28) (bt_ 7 15) rfl rfl (by kernel_rfl) (by decide) (fun K hK => ?_)
   refine value_ (w1 := ?_) (v := ?_) (by rfl) rfl ?_ ?_
   rotate_left 2
   ·go_simp
    constructor
    ·rfl
    ·rfl
   refine hK.out _ _ ((blk_alloc (blk_drew S9.out) _)) (fun hHeld => ?_)
   clear hK K
   refine norm_ (a' := ?_) ?_ ?_
   rotate_left
   ·show Act.put _ (some 28) _ = _
    simp only [pt_]
    rfl
   refine one_ (i := 4) (N := some 29) (bt_ 7 31) rfl rfl (by kernel_rfl) (by decide) (fun K hK => ?_)
   refine Kd.R_append_step (Kd.int .i64) (w0 := w7.drew) (W := w7.drew) B0 (by rfl) (.tmp 26) (.tmp 28) 43 52 (.int .i64 0) 8 (by rfl) Tryz.underlying43 infoErr rfl (by decide) (by decide) u6 (runE M (l.take i)) e1 [.int .i64 e1] (fun k => B0 ≤ k) (fun _ => False) rfl rfl rfl (fun _ h => h.elim) (fun k hk => Nat.le_trans LD.out hk) (Kd.R_drew RE.out) (Below.refl _ _) LD.out (by rw [runE_len, List.length_take]; have := NL.out; omega) ?_
   intro v1 w5 hR hb hg hat
   have RE5 := aq_ hR
   have HB5 := aq_ ((below_drew HB.out).trans (Below.mono hb LB0.out))
   have LD5 := aq_ (show B0 ≤ w5.heap.size from Nat.le_trans LD.out hb.size)
   have X95 := aq_ ((hg.block g9 (blk_lt S9.out) (fun e => by have := Kd.R_lt RE0.out g9 e.symm; have := N9.out; omega)).trans (blk_drew S9.out))
   have X25 := aq_ ((hb.block g2 L2.out).trans (blk_drew X2.out))
   have X45 := aq_ ((hb.block g4 L4.out).trans (blk_drew X4.out))
   have MD5 := aq_ (mdO_grown (rb := fun k => k = g2 ∨ k = g4) (mdO_below ME.out (below_drew (Below.refl _ _))) hg hat)
   clear hR hb hg hat
   refine hK.out _ _ (X95.out) (fun hHeld => ?_)
   clear hK K
   refine norm_ (a' := ?_) ?_ ?_
   rotate_left
   ·show Act.put _ (some 29) _ = _
    simp only [pt_]
    rfl
   refine one_ (i := 5) (N := none) (bt_ 7 63) rfl rfl (by kernel_rfl) (by decide) (fun K hK => ?_)
   refine store_Ms (by rfl) (.tmp 2) (.tmp 25) rfl rfl rfl rfl rfl X25.out ?_
   intro w6 hx1 hs1 hb1 hf1
   have HB6 := aq_ (hb1 _ _ G2.out HB5.out)
   have LD6 := aq_ (show B0 ≤ w6.heap.size by rw [hs1]; exact LD5.out)
   have X26 := aq_ hx1
   have X46 := aq_ ((hf1 g4 N24.out).trans X45.out)
   have RE6 := aq_ (Kd.R_step RE5.out fun k hk _ => hf1 k fun e => by have := L2.out; omega)
   have ME6 := aq_ (mdO_far MD5.out fun k hk => hf1 k fun e => hk (.inl (.inl e)))
   have X96 := aq_ ((hf1 g9 N92.out).trans X95.out)
   clear hx1 hs1 hb1 hf1
   refine hK.out _ _ (X96.out) (fun hHeld => ?_)
   clear hK K
   refine pu_ 6 (some 6) ?_ (bt_ 7 127) rfl rfl (Or.inl ⟨by rfl, ?_⟩) ?_ ?_ ?_;rotate_left;(intro w';go_simp;with_reducible rfl);rotate_left;(simp only [pt_];rfl)
   refine done_ (by kernel_rfl) ?_
   go_wp2
   go_roundw
   case rel => exact ⟨i + 1, v1, U1, T1, K1, D1, cU1, cT1, cK1, cD1, M1, by omega, by go_num, rfl, ⟨HT1.out.symm⟩, ⟨by rw [HE1.out]; exact RE6.out⟩, X26, X46, ME6, HB6, ⟨Nat.le_trans LB0.out LD6.out⟩, LD6⟩
   case measure => simp [intOf]; omega
  ·obtain rfl : i = l.length := by omega
   have hd : decide ((l.length : Int) < l.length) = false := by simp
   have HM0' := aq_ (show runF M l = M0 by rw [HM0.out, List.take_length])
   go_wp2_with (first
    | (with_reducible refine load_Mo (.tmp 2) rfl rfl rfl X2.out ?_)
    | ((with_reducible refine store_Mo (.tmp 4) (.tmp 31) rfl rfl rfl rfl rfl rfl rfl rfl rfl rfl X4.out ?_); intro w6 hx1 hs1 hb1 hf1; have HB6 := aq_ (hb1 _ _ G4.out HB.out); have X46 := aq_ hx1; have ME6 := aq_ (mdO_far ME.out fun k hk => hf1 k fun e => hk (.inl (.inr e))); clear hx1 hs1 hb1 hf1))
   refine bodyPost_ret (ret_Mt rfl (g := g4) rfl rfl X46.out) rfl ?_
   rw [HM0'.out]
   exact ⟨_, _, _, _, _, rfl, mdO_told ME6.out, HB6.out⟩
set_option maxHeartbeats 8000000 in
theorem awake_any (w : World) : Calls Tryz.prog 6 #[] w fun e w' => e = .returned (.bool true) ∧ Below w.heap.size w w' := by
 go_enter Tryz.func6, Tryz.ntmps6
 go_upto_region 2 with (first
  | ((go_at_call 20; (with_reducible refine (key16_any 1 _).mono ?_)); rintro e w1 ⟨v, rfl, hk, hb⟩; obtain ⟨Ak, ck, rfl, hck, hCk⟩ := Kd.R_reads hk; have HB := aq_ hb; have HK := aq_ hCk; have HCK := aq_ hck; clear hk hb hck hCk))
 have HU := aq_ (usr_told _ ⟨3, 2, List.replicate 16 1⟩ HCK.out HK.out)
 have LB := aq_ (Nat.le_of_lt (Nat.lt_of_le_of_lt HB.out.size (lt_al w1 (.cells #[.int .i64 3, .int .i64 2, .slice Ak (List.replicate 16 (1 : Int)).length ck] 67))))
 have HB' := aq_ (below_alloc HB.out (.cells #[.int .i64 3, .int .i64 2, .slice Ak (List.replicate 16 (1 : Int)).length ck] 67))
 clear HB HK HCK
 have HB := HB'
 clear HB'
 go_upto_region 3 with (first
  | ((go_at_call 10; (with_reducible refine (start_1 _ 1 _).mono ?_)); rintro e w2 ⟨rfl, hb⟩; have HM0 := aq_ (start_md (told_belowG HU.out hb)); replace HB := aq_ (HB.out.trans (Below.mono hb LB.out)); replace LB := aq_ (Nat.le_trans LB.out (Below.size hb)); clear hb HU)
  | ((with_reducible refine build_F13 (.const (.int .i64 3)) (.const (.int .u64 5)) rfl rfl rfl rfl ?_))
  | ((with_reducible refine build_S2 (.const (.int .u64 8)) rfl rfl rfl ?_))
  | ((with_reducible refine build_A012 (.const (.int .i64 1)) (.tmp 22) (.tmp 23) rfl rfl rfl rfl rfl ?_))
  | ((go_at_call 12; (with_reducible refine (step_at (startM wU 9) wA1 (.slice (some ⟨w1.heap.size, 0, none⟩) wU.length 1) (.slice none 0 0) (.slice none 0 0) (.slice none 0 0) (.slice none 0 0) aw_1 _ (fun _ => False) no_q HM0.out wf_1 (by decide) told_nil).mono ?_)); rintro e w6 ⟨vU', vT', vK', vD', rfl, hO, hb⟩; obtain ⟨⟨U1, cU1, rfl⟩, ⟨T1, cT1, rfl⟩, ⟨K1, cK1, rfl⟩, ⟨D1, cD1, rfl⟩⟩ := mdO_slices hO; replace HB := aq_ (HB.out.trans (Below.mono hb LB.out)); replace LB := aq_ (Nat.le_trans LB.out (Below.size hb)); have HO := aq_ hO; clear hO; clear hb)
  | ((with_reducible refine alloc_Mo rfl rfl ?_); intro g2_ hgt w8 hbox hb; have MB_ := aq_ (mdO_of (r := fun k => k = g2_) (mdO_told HO.out) hb (fun k hk => by omega)); have G2G0 := LB.out; replace HB := aq_ (HB.out.trans (Below.mono hb LB.out)); replace LB := aq_ (Nat.le_trans LB.out (Below.size hb)); have G2G := aq_ (show w.heap.size ≤ g2_ by omega); have G2L := aq_ (blk_lt hbox); have TB := aq_ hbox; clear hgt hbox hb HO G2G0)
  | ((with_reducible refine store_Mo (.tmp 2) (.tmp 26) rfl rfl rfl rfl rfl rfl rfl rfl rfl rfl TB.out ?_); intro w9 hx1 hs1 hb1 hf1; replace HB := aq_ (hb1 _ _ (G2G.out) HB.out); replace LB := aq_ (Nat.le_trans LB.out (Nat.le_of_eq hs1.symm)); replace G2L := aq_ (Nat.lt_of_lt_of_le G2L.out (Nat.le_of_eq hs1.symm)); have M_ := aq_ (mdO_set MB_.out hf1); have S2 := aq_ hx1; clear hx1 hs1 hb1 hf1 TB MB_))
 have k2 : w9.cell? ⟨g2_, 2, none⟩ = some (.slice T1 1 cT1) := blk_cell S2.out 2
 obtain ⟨ad, hT1, hcS⟩ := one_S (told_C' (mdO_told M_.out).2.1).2.2
 subst hT1
 go_upto_region 5 with (first
  | fail)
 go_upto_region 6 with (first
  | ((with_reducible refine load_S (.tmp 34) rfl rfl (p := ad) rfl hcS ?_); clear k2 hcS)
  | ((with_reducible refine alloc_Se rfl rfl ?_); intro g4 hgt w8 hbox hb hs_; have ALB := aq_ hb; have N4 := aq_ (show g2_ < g4 by have h_ := G2L.out; omega); have ALG := aq_ hgt; have TB := aq_ hbox; clear hgt hbox hb hs_)
  | ((with_reducible refine store_Se2 (.tmp 4) (.tmp 35) rfl rfl rfl rfl rfl TB.out ?_); intro w9 hx1 hs1 hb1 hf1; have hbt := ALB.out.trans (hb1 _ (Nat.le_of_eq ALG.out.symm)); replace HB := aq_ (HB.out.trans (Below.mono hbt LB.out)); replace LB := aq_ (Nat.le_trans LB.out (Below.size hbt)); replace S2 := aq_ (blk_below S2.out hbt); replace M_ := aq_ (mdO_below M_.out hbt); replace G2L := aq_ (Nat.lt_of_lt_of_le G2L.out (Below.size hbt)); have S4 := aq_ hx1; clear hx1 hs1 hb1 hf1 hbt ALB ALG TB))
 go_upto_region 7 with (first
  | (with_reducible refine load_S (.tmp 4) rfl rfl (p := ⟨g4, 0, none⟩) rfl (cells_box S4.out) ?_)
  | (with_reducible refine build_F02 (.const (.int .i64 2)) (.const (.int .u64 8)) rfl rfl rfl rfl ?_)
  | ((go_at_call 18; (with_reducible refine (wproof_2 _).mono ?_)); rintro e w7 ⟨vp, rfl, hV0, hb⟩; have hV := keep_off hV0 G2L.out; clear hV0; obtain ⟨A5, c5, rfl⟩ := Kd.V_slice hV; replace HB := aq_ (HB.out.trans (Below.mono hb LB.out)); replace LB := aq_ (Nat.le_trans LB.out (Below.size hb)); replace S2 := aq_ (blk_below S2.out hb); replace S4 := aq_ (blk_below S4.out hb); replace M_ := aq_ (mdO_below M_.out hb); replace G2L := aq_ (Nat.lt_of_lt_of_le G2L.out (Below.size hb)); have V5 := aq_ (V_base (b' := 0) hV); clear hb hV)
  | ((with_reducible refine alloc_Te rfl rfl ?_); intro g5 hgt w8 hbox hb; have ALB := aq_ hb; have N5 := aq_ (show g2_ < g5 by have h_ := G2L.out; omega); have ALG := aq_ hgt; have TB := aq_ hbox; clear hgt hbox hb)
  | ((with_reducible refine store_Te2 (.tmp 5) (.tmp 40) rfl rfl rfl rfl rfl rfl TB.out ?_); intro w9 hx1 hs1 hb1 hf1; have hbt := ALB.out.trans (hb1 _ (Nat.le_of_eq ALG.out.symm)); replace HB := aq_ (HB.out.trans (Below.mono hbt LB.out)); replace LB := aq_ (Nat.le_trans LB.out (Below.size hbt)); replace S2 := aq_ (blk_below S2.out hbt); replace S4 := aq_ (blk_below S4.out hbt); replace M_ := aq_ (mdO_below M_.out hbt); replace V5 := aq_ (Kd.V_below V5.out hbt); replace G2L := aq_ (Nat.lt_of_lt_of_le G2L.out (Below.size hbt)); have S5 := aq_ hx1; clear hx1 hs1 hb1 hf1 hbt ALB ALG TB))
 go_upto_region 8 with (first
  | (with_reducible refine build_F4 (.const (.int .i64 4)) (.const (.int .u64 8)) (.const (.int .u64 1)) (.const (.int .i64 5)) rfl rfl rfl rfl rfl rfl ?_)
  | ((with_reducible refine alloc_Fr rfl rfl ?_); intro g7 hgt w8 hbox hb; have ALB := aq_ hb; have N7 := aq_ (show g2_ < g7 by have h_ := G2L.out; omega); have ALG := aq_ hgt; have TB := aq_ hbox; clear hgt hbox hb)
  | ((with_reducible refine store_Fr2 (.tmp 7) (.tmp 42) rfl rfl rfl rfl rfl TB.out ?_); intro w9 hx1 hs1 hb1; have hbt := ALB.out.trans (hb1 _ (Nat.le_of_eq ALG.out.symm)); replace HB := aq_ (HB.out.trans (Below.mono hbt LB.out)); replace LB := aq_ (Nat.le_trans LB.out (Below.size hbt)); replace S2 := aq_ (blk_below S2.out hbt); replace S4 := aq_ (blk_below S4.out hbt); replace M_ := aq_ (mdO_below M_.out hbt); replace S5 := aq_ (blk_below S5.out hbt); replace V5 := aq_ (Kd.V_below V5.out hbt); replace G2L := aq_ (Nat.lt_of_lt_of_le G2L.out (Below.size hbt)); have S7 := aq_ hx1; clear hx1 hs1 hb1 hbt ALB ALG TB))
 go_upto_region 9 with (first
  | (with_reducible refine load_S (.tmp 4) rfl rfl (p := ⟨g4, 0, none⟩) rfl (cells_box S4.out) ?_)
  | (with_reducible refine load_F (.tmp 7) rfl rfl (p := ⟨g7, 0, none⟩) rfl (cells_boxF S7.out) ?_)
  | ((go_at_call 18; (with_reducible refine (wproof_4 _).mono ?_)); rintro e w7 ⟨vp, rfl, hV0, hb⟩; have hV := keep_off hV0 G2L.out; clear hV0; obtain ⟨A8, c8, rfl⟩ := Kd.V_slice hV; replace HB := aq_ (HB.out.trans (Below.mono hb LB.out)); replace LB := aq_ (Nat.le_trans LB.out (Below.size hb)); replace S2 := aq_ (blk_below S2.out hb); replace S4 := aq_ (blk_below S4.out hb); replace M_ := aq_ (mdO_below M_.out hb); replace S5 := aq_ (blk_below S5.out hb); replace V5 := aq_ (Kd.V_below V5.out hb); replace S7 := aq_ (blk_below S7.out hb); replace G2L := aq_ (Nat.lt_of_lt_of_le G2L.out (Below.size hb)); have V8 := aq_ (V_base (b' := 0) hV); clear hb hV)
  | ((with_reducible refine alloc_Te rfl rfl ?_); intro g8 hgt w8 hbox hb; have ALB := aq_ hb; have N8 := aq_ (show g2_ < g8 by have h_ := G2L.out; omega); have ALG := aq_ hgt; have TB := aq_ hbox; clear hgt hbox hb)
  | ((with_reducible refine store_Te2 (.tmp 8) (.tmp 47) rfl rfl rfl rfl rfl rfl TB.out ?_); intro w9 hx1 hs1 hb1 hf1; have hbt := ALB.out.trans (hb1 _ (Nat.le_of_eq ALG.out.symm)); replace HB := aq_ (HB.out.trans (Below.mono hbt LB.out)); replace LB := aq_ (Nat.le_trans LB.out (Below.size hbt)); replace S2 := aq_ (blk_below S2.out hbt); replace S4 := aq_ (blk_below S4.out hbt); replace M_ := aq_ (mdO_below M_.out hbt); replace S5 := aq_ (blk_below S5.out hbt); replace V5 := aq_ (Kd.V_below V5.out hbt); replace S7 := aq_ (blk_below S7.out hbt); replace V8 := aq_ (Kd.V_below V8.out hbt); replace G2L := aq_ (Nat.lt_of_lt_of_le G2L.out (Below.size hbt)); have S8 := aq_ hx1; clear hx1 hs1 hb1 hf1 hbt ALB ALG TB))
 obtain ⟨⟨p50, p51, p52⟩, _⟩ := cells3 S5.out
 go_upto_region 10 with (first
  | (with_reducible refine load_Mo (.tmp 2) rfl rfl rfl S2.out ?_)
  | (with_reducible refine build_F02 (.const (.int .i64 2)) (.const (.int .u64 8)) rfl rfl rfl rfl ?_)
  | (with_reducible refine build_A2 (.const (.int .i64 1)) (.tmp 51) (.tmp 52) rfl rfl (proofT wx wF2) rfl rfl rfl ?_)
  | ((go_at_call 12; (with_reducible refine (wstep_2 (.slice U1 wM1.U.length cU1) (.slice (some ad) wM1.T.length cT1) (.slice K1 wM1.K.length cK1) (.slice D1 wM1.D.length cD1) _ _ (fun k => k = g2_) (fun k hk => by rw [hk]; exact G2L.out) M_.out (told_V V5.out)).mono ?_)); rintro e w6 ⟨vU', vT', vK', vD', rfl, hO, hb⟩; obtain ⟨⟨U2, cU2, rfl⟩, ⟨T2, cT2, rfl⟩, ⟨K2, cK2, rfl⟩, ⟨D2, cD2, rfl⟩⟩ := mdO_slices hO; replace HB := aq_ (HB.out.trans (Below.mono hb LB.out)); replace LB := aq_ (Nat.le_trans LB.out (Below.size hb)); replace S2 := aq_ (blk_below S2.out hb); replace S4 := aq_ (blk_below S4.out hb); replace M_ := aq_ (mdO_below M_.out hb); replace S5 := aq_ (blk_below S5.out hb); replace V5 := aq_ (Kd.V_below V5.out hb); replace S7 := aq_ (blk_below S7.out hb); replace S8 := aq_ (blk_below S8.out hb); replace V8 := aq_ (Kd.V_below V8.out hb); replace G2L := aq_ (Nat.lt_of_lt_of_le G2L.out (Below.size hb)); have HO_ := aq_ hO; clear hO hb p50 p51 p52)
  | ((with_reducible refine store_Mo (.tmp 2) (.tmp 55) rfl rfl rfl rfl rfl rfl rfl rfl rfl rfl S2.out ?_); intro w9 hx1 hs1 hb1 hf1; replace HB := aq_ (hb1 _ _ (G2G.out) HB.out); replace LB := aq_ (Nat.le_trans LB.out (Nat.le_of_eq hs1.symm)); replace G2L := aq_ (Nat.lt_of_lt_of_le G2L.out (Nat.le_of_eq hs1.symm)); clear M_; have M_ := aq_ (mdO_set HO_.out hf1); clear S2; have S2 := aq_ hx1; replace S4 := aq_ ((hf1 _ (Nat.ne_of_gt N4.out)).trans S4.out); replace S5 := aq_ ((hf1 _ (Nat.ne_of_gt N5.out)).trans S5.out); replace V5 := aq_ (Kd.V_step V5.out fun k hk _ => hf1 k hk); replace S7 := aq_ ((hf1 _ (Nat.ne_of_gt N7.out)).trans S7.out); replace S8 := aq_ ((hf1 _ (Nat.ne_of_gt N8.out)).trans S8.out); replace V8 := aq_ (Kd.V_step V8.out fun k hk _ => hf1 k hk); clear hx1 hs1 hb1 hf1 HO_))
 obtain ⟨⟨p50, p51, p52⟩, _⟩ := cells3 S5.out
 go_upto_region 11 with (first
  | (with_reducible refine load_Mo (.tmp 2) rfl rfl rfl S2.out ?_)
  | (with_reducible refine load_F (.tmp 7) rfl rfl (p := ⟨g7, 0, none⟩) rfl (cells_boxF S7.out) ?_)
  | (with_reducible refine build_A3 (.const (.int .i64 1)) (.tmp 59) (.tmp 60) rfl rfl (proofT wx wF2) rfl rfl rfl ?_)
  | ((go_at_call 12; (with_reducible refine (wstep_3 (.slice U2 wM2.U.length cU2) (.slice T2 wM2.T.length cT2) (.slice K2 wM2.K.length cK2) (.slice D2 wM2.D.length cD2) _ _ (fun k => k = g2_) (fun k hk => by rw [hk]; exact G2L.out) M_.out (told_V V5.out)).mono ?_)); rintro e w6 ⟨vU', vT', vK', vD', rfl, hO, hb⟩; obtain ⟨⟨U3, cU3, rfl⟩, ⟨T3, cT3, rfl⟩, ⟨K3, cK3, rfl⟩, ⟨D3, cD3, rfl⟩⟩ := mdO_slices hO; replace HB := aq_ (HB.out.trans (Below.mono hb LB.out)); replace LB := aq_ (Nat.le_trans LB.out (Below.size hb)); replace S2 := aq_ (blk_below S2.out hb); replace S4 := aq_ (blk_below S4.out hb); replace M_ := aq_ (mdO_below M_.out hb); replace S5 := aq_ (blk_below S5.out hb); replace V5 := aq_ (Kd.V_below V5.out hb); replace S7 := aq_ (blk_below S7.out hb); replace S8 := aq_ (blk_below S8.out hb); replace V8 := aq_ (Kd.V_below V8.out hb); replace G2L := aq_ (Nat.lt_of_lt_of_le G2L.out (Below.size hb)); have HO_ := aq_ hO; clear hO hb p50 p51 p52)
  | ((with_reducible refine alloc_Mo rfl rfl ?_); intro g11 hgt w8 hbox hb; have ALB := aq_ hb; have ALG := aq_ hgt; have TB := aq_ hbox; clear hgt hbox hb)
  | ((with_reducible refine store_Mo (.tmp 11) (.tmp 63) rfl rfl rfl rfl rfl rfl rfl rfl rfl rfl TB.out ?_); intro w9 hx1 hs1 hb1 hf1; have hbt := hb1 _ _ (Nat.le_of_eq ALG.out.symm) ALB.out; replace HB := aq_ (HB.out.trans (Below.mono hbt LB.out)); replace LB := aq_ (Nat.le_trans LB.out (Below.size hbt)); replace S2 := aq_ (blk_below S2.out hbt); replace S4 := aq_ (blk_below S4.out hbt); replace M_ := aq_ (mdO_below M_.out hbt); replace S5 := aq_ (blk_below S5.out hbt); replace V5 := aq_ (Kd.V_below V5.out hbt); replace S7 := aq_ (blk_below S7.out hbt); replace S8 := aq_ (blk_below S8.out hbt); replace V8 := aq_ (Kd.V_below V8.out hbt); replace G2L := aq_ (Nat.lt_of_lt_of_le G2L.out (Below.size hbt)); clear hx1 hs1 hb1 hf1 hbt ALB ALG TB HO_))
 obtain ⟨⟨p80, p81, p82⟩, _⟩ := cells3 S8.out
 go_upto_region 12 with (first
  | (with_reducible refine load_Mo (.tmp 2) rfl rfl rfl S2.out ?_)
  | (with_reducible refine load_F (.tmp 7) rfl rfl (p := ⟨g7, 0, none⟩) rfl (cells_boxF S7.out) ?_)
  | (with_reducible refine build_A3 (.const (.int .i64 1)) (.tmp 67) (.tmp 68) rfl rfl (proofT wx wC) rfl rfl rfl ?_)
  | ((go_at_call 12; (with_reducible refine (wstep_4 (.slice U2 wM2.U.length cU2) (.slice T2 wM2.T.length cT2) (.slice K2 wM2.K.length cK2) (.slice D2 wM2.D.length cD2) _ _ (fun k => k = g2_) (fun k hk => by rw [hk]; exact G2L.out) M_.out (told_V V8.out)).mono ?_)); rintro e w6 ⟨vU', vT', vK', vD', rfl, hO, hb⟩; obtain ⟨⟨U4, cU4, rfl⟩, ⟨T4, cT4, rfl⟩, ⟨K4, cK4, rfl⟩, ⟨D4, cD4, rfl⟩⟩ := mdO_slices hO; replace HB := aq_ (HB.out.trans (Below.mono hb LB.out)); replace LB := aq_ (Nat.le_trans LB.out (Below.size hb)); replace S2 := aq_ (blk_below S2.out hb); replace S4 := aq_ (blk_below S4.out hb); replace M_ := aq_ (mdO_below M_.out hb); replace S5 := aq_ (blk_below S5.out hb); replace V5 := aq_ (Kd.V_below V5.out hb); replace S7 := aq_ (blk_below S7.out hb); replace S8 := aq_ (blk_below S8.out hb); replace V8 := aq_ (Kd.V_below V8.out hb); replace G2L := aq_ (Nat.lt_of_lt_of_le G2L.out (Below.size hb)); have HO_ := aq_ hO; clear hO hb p80 p81 p82)
  | ((with_reducible refine store_Mo (.tmp 2) (.tmp 71) rfl rfl rfl rfl rfl rfl rfl rfl rfl rfl S2.out ?_); intro w9 hx1 hs1 hb1 hf1; replace HB := aq_ (hb1 _ _ (G2G.out) HB.out); replace LB := aq_ (Nat.le_trans LB.out (Nat.le_of_eq hs1.symm)); replace G2L := aq_ (Nat.lt_of_lt_of_le G2L.out (Nat.le_of_eq hs1.symm)); clear M_; have M_ := aq_ (mdO_set HO_.out hf1); clear S2; have S2 := aq_ hx1; replace S4 := aq_ ((hf1 _ (Nat.ne_of_gt N4.out)).trans S4.out); replace S5 := aq_ ((hf1 _ (Nat.ne_of_gt N5.out)).trans S5.out); replace V5 := aq_ (Kd.V_step V5.out fun k hk _ => hf1 k hk); replace S7 := aq_ ((hf1 _ (Nat.ne_of_gt N7.out)).trans S7.out); replace S8 := aq_ ((hf1 _ (Nat.ne_of_gt N8.out)).trans S8.out); replace V8 := aq_ (Kd.V_step V8.out fun k hk _ => hf1 k hk); clear hx1 hs1 hb1 hf1 HO_))
 clear S5 V5 S7 S8 V8
 go_upto_region 13 with (first
  | (with_reducible refine load_S (.tmp 4) rfl rfl (p := ⟨g4, 0, none⟩) rfl (cells_box S4.out) ?_)
  | ((go_at_call 21; (with_reducible refine (key_w _).mono ?_)); rintro e w7 ⟨vp, rfl, hV0, hb⟩; obtain ⟨A14, c14, rfl⟩ := Kd.V_slice hV0; replace HB := aq_ (HB.out.trans (Below.mono hb LB.out)); replace LB := aq_ (Nat.le_trans LB.out (Below.size hb)); replace S2 := aq_ (blk_below S2.out hb); replace S4 := aq_ (blk_below S4.out hb); replace M_ := aq_ (mdO_below M_.out hb); replace G2L := aq_ (Nat.lt_of_lt_of_le G2L.out (Below.size hb)); clear hb hV0)
  | ((with_reducible refine alloc_Te rfl rfl ?_); intro g14 hgt w8 hbox hb; have ALB := aq_ hb; have N14 := aq_ (show g2_ < g14 by have h_ := G2L.out; omega); have ALG := aq_ hgt; have TB := aq_ hbox; clear hgt hbox hb)
  | ((with_reducible refine store_Te2 (.tmp 14) (.tmp 76) rfl rfl rfl rfl rfl rfl TB.out ?_); intro w9 hx1 hs1 hb1 hf1; have hbt := ALB.out.trans (hb1 _ (Nat.le_of_eq ALG.out.symm)); replace HB := aq_ (HB.out.trans (Below.mono hbt LB.out)); replace LB := aq_ (Nat.le_trans LB.out (Below.size hbt)); replace S2 := aq_ (blk_below S2.out hbt); replace S4 := aq_ (blk_below S4.out hbt); replace M_ := aq_ (mdO_below M_.out hbt); replace G2L := aq_ (Nat.lt_of_lt_of_le G2L.out (Below.size hbt)); have S14 := aq_ hx1; clear hx1 hs1 hb1 hf1 hbt ALB ALG TB))
 have k6 : w9.cell? ⟨g2_, 6, none⟩ = some (.slice D4 1 cD4) := blk_cell S2.out 6
 obtain ⟨ae, hD4, hcD⟩ := one_D (told_C' (mdO_told M_.out).2.2.2).2.2
 subst hD4
 go_wp2_with (first
  | ((with_reducible refine gate_load 42 (.tmp 2) rfl ?_); refine load_Mw (.tmp 2) rfl (by rfl) rfl S2.out ?_)
  | ((go_at_call 22; (with_reducible refine (may_w3 (.slice U4 wM3.U.length cU4) (.slice T4 wM3.T.length cT4) (.slice K4 wM3.K.length cK4) (.slice (some ae) wM3.D.length cD4) _ (mdO_told M_.out)).mono ?_)); rintro e w7 ⟨rfl, hb⟩; replace HB := aq_ (HB.out.trans (Below.mono hb LB.out)); replace LB := aq_ (Nat.le_trans LB.out (Below.size hb)); replace S2 := aq_ (blk_below S2.out hb); replace M_ := aq_ (mdO_below M_.out hb); clear hb k6 hcD)
  | ((go_at_call 23; (with_reducible refine (same_w3 (.slice U4 wM3.U.length cU4) (.slice T4 wM3.T.length cT4) (.slice K4 wM3.K.length cK4) (.slice (some ae) wM3.D.length cD4) _ (mdO_told M_.out)).mono ?_)); rintro e w7 ⟨rfl, hb⟩; replace HB := aq_ (HB.out.trans (Below.mono hb LB.out)); replace LB := aq_ (Nat.le_trans LB.out (Below.size hb)); clear hb))
 go_ret
 exact ⟨rfl, HB.out⟩
end Go.Proofs.YtdinphnljokigaaGreat.P
end
