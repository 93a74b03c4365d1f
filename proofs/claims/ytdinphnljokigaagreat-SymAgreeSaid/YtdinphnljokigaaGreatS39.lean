/- What LawSymAgree rests on, part 39: several texts put together. -/
import Derived.Test.YtdinphnljokigaaGreatS38
import Derived.Test.YtdinphnljokigaaGreatS3
set_option linter.unusedVariables false
set_option linter.unnecessarySimpa false
set_option linter.unusedSimpArgs false
set_option maxRecDepth 100000
section
namespace Go.Proofs.YtdinphnljokigaaGreat.P
open Go.RowKit Go.Lib Go.Proofs.YtdinphnljokigaaGreatW.PrintWords Go.Proofs.YtdinphnljokigaaGreatW.PrintLast Go.Proofs.YtdinphnljokigaaGreatW.PrintMore
structure ForkS (w : World) (vU vT vK vD : Value) (g : Nat) (M : Mdl) (rq : Nat → Prop) (w' : World) : Prop where
 box : w'.heap[g]? = some (.cells zmca 42 (0, 0))
 md : MdO w' (fun k => rq k ∨ k = g) M vU vT vK vD
 below : Below w.heap.size w w'
 fresh : w.heap.size ≤ g
theorem forkS_1 {w wq : World} {vU vT vK vD : Value} {M : Mdl} {rq : Nat → Prop} (hm : MdO wq rq M vU vT vK vD) (hb : Below w.heap.size w wq) : ForkS w vU vT vK vD wq.heap.size M rq (wq.alloc (.cells zmca 42)) :=
 ⟨blk_new _ _, mdO_add hm (below_alloc (Below.refl _ _) _) (Nat.le_refl _), hb.trans (Below.mono (below_alloc (Below.refl _ _) _) hb.size), hb.size⟩
theorem forkS_2 {w wq : World} {vU vT vK vD : Value} {M : Mdl} {rq : Nat → Prop} (hm : MdO wq (fun k => rq k ∨ k = w.heap.size) M vU vT vK vD) (hb : Below (w.alloc (.cells zmca 42)).heap.size (w.alloc (.cells zmca 42)) wq) : ForkS w vU vT vK vD w.heap.size M rq wq :=
 ⟨blk_below (blk_new w _) hb, hm, (below_alloc (Below.refl _ w) _).trans (Below.mono hb (Nat.le_of_lt (lt_al w _))), Nat.le_refl _⟩
section
variable {ops : Array Oper} {rest : List Oper} {o : Oper} {a : Act} {w : World} {Q : Exit → Act → World → Prop}
theorem exec_loadAc (y : Operand) (ho : o.op = .load 38 y) {p : Addr} (hy : a.eval y = .pointer (some p)) {x : Ac} {v : Value} (hc : ∀ j u, (acl x v)[j]? = some u → w.cell? (p.add j) = some u) :
  (execOp a.eval o).run Tryz.prog w = .ok (.value (.agg (aca x v))) w := by
 unfold execOp
 simp only [ho, hy, Instr.loadAt, Instr.sureAddr, Sem.run_bind, Sem.run_pure, Result.andThen_ok, run_loadA hc]
theorem exec_fieldK (x : Operand) (ho : o.op = .field 42 x 5) {M : Mdl} {vU vT vK vD : Value} (hx : a.eval x = .agg (mca M vU vT vK vD)) : (execOp a.eval o).run Tryz.prog w = .ok (.value vK) w := by
 unfold execOp
 rw [ho]
 simp only [hx]
 kernel_rfl
end
theorem below_drew_trans {w w' : World} (h : Below w.drew.heap.size w.drew w') : Below w.heap.size w w' := (below_drew (Below.refl _ w)).trans h
theorem sent_ex (d : Don) (l : List Ac) (es : List Int) (A Ae : Option Addr) (c ce n : Nat) (w : World) (hl : kA.C w A l.length l) (he : (Kd.int .i64).C w Ae es.length es) (hn1 : n ≤ l.length) (hn2 : n ≤ es.length) :
  Calls Tryz.prog 13 #[.agg #[.int .i64 d.user, .int .i64 d.epoch, .int .u64 d.draw, .int .u64 d.cn, .int .u64 d.count, .int .i64 d.cmd, .int .i64 d.arg], .slice A l.length c, .slice Ae es.length ce, .int .i64 n] w fun e w' => e = .returned (.bool (sentB d ((l.zip es).take n))) ∧ Below w.heap.size w w' := sent_any d l es A Ae c ce n w hl he hn1 hn2
theorem sent_len (d : Don) (l : List Ac) (es : List Int) (A Ae : Option Addr) (c ce n m : Nat) (w : World) (hl : kA.C w A l.length l) (he : (Kd.int .i64).C w Ae es.length es) (hn1 : n ≤ l.length) (hn2 : n ≤ es.length) (hm : es.length = m) (b : Bool) (hb : sentB d ((l.zip es).take n) = b) :
  Calls Tryz.prog 13 #[.agg #[.int .i64 d.user, .int .i64 d.epoch, .int .u64 d.draw, .int .u64 d.cn, .int .u64 d.count, .int .i64 d.cmd, .int .i64 d.arg], .slice A l.length c, .slice Ae m ce, .int .i64 n] w fun e w' => e = .returned (.bool b) ∧ Below w.heap.size w w' := by
 subst hm
 subst hb
 exact sent_ex d l es A Ae c ce n w hl he hn1 hn2
theorem rmay_true (a b : Int) (w : World) (h : mayR a b = true) : Calls Tryz.prog 16 #[.int .i64 a, .int .i64 b] w fun e w' => e = .returned (.bool true) ∧ Below w.heap.size w w' := role_May.calls a b true w (congrArg some h)
theorem zip_take {l : List Ac} {es : List Int} {e : Int} {i : Nat} (h : es.length = i) : (l.zip (es ++ [e])).take i = (l.take i).zip es := by
 unfold List.zip
 rw [List.take_zipWith, List.take_append_of_le_length (by omega), List.take_of_length_le (l := es) (by omega)]
theorem zip_snoc {l : List Ac} {es : List Int} {e : Int} {i : Nat} {a : Ac} (ha : l[i]? = some a) (h : es.length = i) : (l.take (i + 1)).zip (es ++ [e]) = (l.take i).zip es ++ [(a, e)] := by
 have hi : i < l.length := (List.getElem?_eq_some_iff.1 ha).1
 rw [take_snoc ha, List.zip_append (by rw [List.length_take]; omega)]
 rfl
theorem startB_small {U : List Usr} {bad : List Int} {idle : Int} (h : U.length ≤ 10 ∧ ∀ u ∈ U, u.key.length ≤ 100) (hb : bad.length ≤ 20) : Small (startB U bad idle) 0 20 :=
 ⟨⟨Nat.lt_of_le_of_lt h.1 (by decide), fun u hu => Nat.lt_of_le_of_lt (h.2 u hu) (by decide)⟩, ⟨Nat.le_refl _, fun x hx => absurd hx (by simp [startB])⟩, ⟨by show (keysL bad).length ≤ 0 + 20; rw [keysL_len]; omega, fun t ht => by
  obtain ⟨n, _, rfl⟩ := List.mem_map.1 ht
  show tsize ⟨1, n, []⟩ ≤ 1000000
  rw [tsize_eq]
  simp [lsize]⟩, Nat.le_refl _⟩
theorem kinv_start (U : List Usr) (bad : List Int) (idle : Int) : KInv bad (startB U bad idle) [] := ⟨[], by simp [startB], fun t ht => absurd ht (by simp)⟩
theorem runF_U (M : Mdl) : ∀ l, (runF M l).U = M.U := by
 intro l
 induction l generalizing M with
 | nil => rfl
 | cons a l ih => exact (ih (stepM M a).1).trans (step_U M a)
theorem kinv_size {bad : List Int} {M : Mdl} {ps : List (Ac × Int)} (h : KInv bad M ps) (hl : M.K.length ≤ 1000) : lsize M.K ≤ 1000000 := by
 refine Nat.le_trans (lsize_le _ 20 fun x hx => ?_) (by omega)
 rcases kinv_known h x hx with ⟨n, rfl⟩ | ⟨y, g, h1, h2, h3, rfl⟩
 ·show tsize ⟨1, n, []⟩ ≤ 20
  rw [tsize_eq]
  simp [lsize]
 ·have := (proof_small h1 h2 h3).2.1
  omega
set_option maxHeartbeats 8000000 in
theorem agree_walk (U : List Usr) (AU : Option Addr) (cU : Nat) (bad : List Int) (AB : Option Addr) (cB : Nat) (idle : Int) (L : List Ac) (A : Option Addr) (c : Nat) (w : World) (hU : kU.C w AU U.length U) (hcU : U.length ≤ cU) (hB : (Kd.int .i64).C w AB bad.length bad) (hr : kA.C w A L.length L) (hw : ∀ a ∈ L, wfS a.X ∧ wfF a.F) :
  Calls Tryz.prog 4 #[.slice AU U.length cU, .slice AB bad.length cB, .int .i64 idle, .slice A L.length c] w fun e w' => e = .returned (.bool true) ∧ Below w.heap.size w w' := by
 have CU := aq_ hU
 have LU := aq_ hcU
 have CB := aq_ hB
 have CA := aq_ hr
 have WF := aq_ hw
 have HB := aq_ (Below.refl w.heap.size w)
 have LW := aq_ (Nat.le_refl w.heap.size)
 have hml : L.length ≤ 9223372036854775807 := hr.2.1
 clear hU hcU hB hr hw
 go_enter Tryz.func4, Tryz.ntmps4
 go_upto_region 2 with ((go_at_call 6; (with_reducible refine (awake_any _).mono ?_)); rintro e w1 ⟨rfl, hb⟩; replace HB := aq_ (HB.out.trans (Below.mono hb LW.out)); replace LW := aq_ (Nat.le_trans LW.out hb.size); clear hb)
 go_upto_region 3 with ((go_at_call 7; (with_reducible refine (ufew_any U AU cU _ (Kd.C_below CU.out HB.out)).mono ?_)); rintro e w2 ⟨b1, rfl, hf, rfl⟩; have HF := aq_ hf; clear hf)
 go_upto_region 4 with ((go_at_call 8; (with_reducible refine (fewActs_any L A c _ (Kd.C_below CA.out HB.out)).mono ?_)); rintro e w3 ⟨b2, rfl, hf, hb⟩; have HL := aq_ hf; replace HB := aq_ (HB.out.trans (Below.mono hb LW.out)); replace LW := aq_ (Nat.le_trans LW.out hb.size); clear hf hb)
 cases b1
 ·go_wp2
  go_ret
  exact ⟨rfl, HB.out⟩
 cases b2
 ·go_wp2
  go_ret
  exact ⟨rfl, HB.out⟩
 cases q20 : decide (20 < (bad.length : Int))
 case true =>
  go_wp2
  go_ret
  exact ⟨rfl, HB.out⟩
 have hb20 : bad.length ≤ 20 := by simp at q20; omega
 have hL40 : L.length ≤ 40 := (HL.out rfl).1
 have LT := aq_ (HL.out rfl).2
 have FU := aq_ (HF.out rfl)
 obtain ⟨M, hM⟩ : ∃ M, startB U bad idle = M := ⟨_, rfl⟩
 have HM := aq_ hM
 clear HL HF hM
 go_upto_region 7 with (first
  | ((go_at_call 10; (with_reducible refine (startB_any U AU cU bad AB cB idle _ (Kd.C_below CB.out HB.out) (Nat.le_trans hb20 (by decide))).mono ?_)); rintro e w4 ⟨vK, rfl, hN, hb⟩; rw [HM.out]; obtain ⟨K0, cK0, rfl, hcK, hCK⟩ := Kd.N_reads hN; have MC := aq_ (show MdC w4 M (.slice AU U.length cU) (.slice none 0 0) (.slice K0 (keysL bad).length cK0) (.slice none 0 0) by rw [← HM.out]; exact ⟨⟨AU, cU, rfl, LU.out, Kd.C_below CU.out (HB.out.trans (Below.mono hb LW.out))⟩, told_nil, ⟨K0, cK0, rfl, hcK, hCK⟩, told_nil⟩); replace HB := aq_ (HB.out.trans (Below.mono hb LW.out)); replace LW := aq_ (Nat.le_trans LW.out hb.size); clear hb hN hcK hCK)
  | ((with_reducible refine alloc_Mo rfl rfl ?_); intro g12 hgt w5 hbox hb; have G12 := aq_ (show w.heap.size ≤ g12 by have := LW.out; omega); have MO := aq_ (mdO_of (r := fun k => k = g12) MC.out hb (fun k hk => by omega)); replace HB := aq_ (HB.out.trans (Below.mono hb LW.out)); replace LW := aq_ (Nat.le_trans LW.out hb.size); have TB := aq_ hbox; clear hgt hbox hb MC)
  | ((with_reducible refine store_Mo (.tmp 12) (.tmp 44) rfl rfl rfl rfl rfl rfl rfl rfl rfl rfl TB.out ?_); intro w6 hx1 hs1 hb1 hf1; have X12 := aq_ hx1; replace HB := aq_ (hb1 _ _ G12.out HB.out); replace LW := aq_ (show w.heap.size ≤ w6.heap.size by rw [hs1]; exact LW.out); replace MO := aq_ (mdO_set MO.out hf1); clear hx1 hs1 hb1 hf1 TB))
 obtain ⟨B0, hB0⟩ : ∃ B0, B0 = w6.heap.size := ⟨_, rfl⟩
 have L12 := aq_ (show g12 < B0 by have := blk_lt X12.out; omega)
 have LB0 := aq_ (show w.heap.size ≤ B0 by have := LW.out; omega)
 have LD := aq_ (show B0 ≤ w6.heap.size by omega)
 have HU := aq_ (show M.U = U by rw [← HM.out]; rfl)
 have HKI := aq_ (show KInv bad M [] by rw [← HM.out]; exact kinv_start U bad idle)
 have HSM := aq_ (show Small M 0 20 by rw [← HM.out]; exact startB_small FU.out hb20)
 clear hB0
 go_wp2
 go_loopw [13, 14, 15, 16, 17, 18, 19] (fun v13 v14 v15 v16 v17 v18 v19 wr => ∃ (i : Nat) (vE : Value) (U0 T0 K0 D0 : Option Addr) (cU0 cT0 cK0 cD0 : Nat) (M0 : Mdl), i ≤ L.length ∧ v14 = .int .i64 i ∧ v13 = vE ∧ Aside0 (M0 = runF M (L.take i)) ∧ Aside0 (KInv bad M0 ((L.take i).zip (runE M (L.take i)))) ∧ Aside0 (Kd.R (Kd.int .i64) 52 wr B0 (fun k => B0 ≤ k) vE (runE M (L.take i))) ∧ Aside0 (wr.heap[g12]? = some (.cells (mca M0 (.slice U0 M0.U.length cU0) (.slice T0 M0.T.length cT0) (.slice K0 M0.K.length cK0) (.slice D0 M0.D.length cD0)) 42 (0, 0))) ∧ Aside0 (MdO wr (fun k => k = g12 ∨ vE.ownBlock = some k) M0 (.slice U0 M0.U.length cU0) (.slice T0 M0.T.length cT0) (.slice K0 M0.K.length cK0) (.slice D0 M0.D.length cD0)) ∧ Aside0 (Below w.heap.size w wr) ∧ Aside0 (w.heap.size ≤ wr.heap.size) ∧ Aside0 (B0 ≤ wr.heap.size)) (fun v13 v14 v15 v16 v17 v18 v19 _ => L.length - (intOf v14).toNat)
 case atStart => exact ⟨0, _, AU, none, K0, none, cU, 0, cK0, 0, M, by omega, rfl, rfl, ⟨rfl⟩, HKI, ⟨Kd.R_nil _ _ _ _ _⟩, ⟨by rw [← HM.out]; have h := X12.out; rw [← HM.out] at h; exact h⟩, ⟨by rw [← HM.out]; have h := mdO_less (r' := fun k => k = g12 ∨ (Value.slice none 0 0).ownBlock = some k) MO.out (fun k hk => hk.elim id (fun e => by simp [Value.ownBlock] at e)); rw [← HM.out] at h; exact h⟩, HB, LW, LD⟩
 case round =>
  clear X12 MO HB LW LD HKI
  obtain ⟨i, vE, U0, T0, K0, D0, cU0, cT0, cK0, cD0, M0, hi, rfl, rfl, HM0, HKI, RE, X12, ME, HB, LW, LD⟩ := hrel
  by_cases hlt : i < L.length
  ·have hd : decide ((i : Int) < L.length) = true := by simp; omega
   obtain ⟨a, ha⟩ : ∃ a, L[i]? = some a := ⟨_, List.getElem?_eq_getElem hlt⟩
   have HA := aq_ ha
   have WA0 := aq_ (WF.out a (List.mem_of_getElem? ha))
   have TZ := aq_ (show tsize a.T ≤ 1000000 by have := LT.out a (List.mem_of_getElem? ha); omega)
   have SM := aq_ (show Small M0 (0 + (L.take i).length) 20 by rw [HM0.out]; exact small_run HSM.out (L.take i) fun b hb => WF.out b (List.mem_of_mem_take hb))
   have HL1 := aq_ (show (L.take i).length ≤ 40 by rw [List.length_take]; omega)
   have KZ := aq_ (show lsize M0.K ≤ 1000000 from kinv_size HKI.out (by have := SM.out.k.1; have := HL1.out; omega))
   have WA := aq_ (show wantA M0 a from ⟨small_of SM.out (by have := HL1.out; omega), WA0.out.1, WA0.out.2, SM.out.t.2⟩)
   have UM := aq_ (show M0.U = U by rw [HM0.out, runF_U, HU.out])
   obtain ⟨M1, hM1⟩ : ∃ M1, (stepM M0 a).1 = M1 := ⟨_, rfl⟩
   obtain ⟨e1, he1⟩ : ∃ e1, (stepM M0 a).2 = e1 := ⟨_, rfl⟩
   have HST := aq_ (show stepM M0 a = (M1, e1) by rw [← hM1, ← he1])
   have HK1 := aq_ (show KInv bad M1 ((L.take i).zip (runE M (L.take i)) ++ [(a, e1)]) by have := kinv_step HKI.out (a := a) WA0.out.1 WA0.out.2; rw [hM1, he1] at this; exact this)
   have HT1 := aq_ (show M1 = runF M (L.take (i + 1)) by rw [take_snoc ha, runF_snoc, ← HM0.out, hM1])
   have HE1 := aq_ (show runE M (L.take (i + 1)) = runE M (L.take i) ++ [e1] by rw [take_snoc ha, runE_snoc, ← HM0.out, he1])
   have HEL := aq_ (show (runE M (L.take i)).length = i by rw [runE_len, List.length_take]; omega)
   have HDN := aq_ (show M0.D.length < M1.D.length → a.kind = 1 ∧ a.F.kind = 4 ∧ ∃ x ∈ M0.T, M1.D = M0.D ++ [doneM x a.F] ∧ isP x a.F = true ∧ a.T = proofT x a.F ∧ mayR (roleU M0.U x.user) a.F.cmd = true by rw [← hM1]; exact done_of)
   clear hM1 he1 ha
   obtain ⟨ad, A2, c2, hA, hcs, hc2, hC2⟩ := at_A (Kd.C_below CA.out HB.out) i hlt a HA.out
   have TT := aq_ (show Told k24 wr (.slice A2 a.T.f2.length c2) a.T.f2 from ⟨A2, c2, rfl, hc2, hC2⟩)
   obtain ⟨a0, a1, _⟩ := acts_at hcs
   obtain ⟨t0, t1, t2⟩ := acts_T hcs
   have c5 : wr.cell? ⟨g12, 5, none⟩ = some (.slice K0 M0.K.length cK0) := blk_cell X12.out 5
   subst hA
   clear hcs hC2 hc2
   go_upto_if 11 with fail
   go_cut [76] (fun v76 wc => ∃ b : Bool, v76 = .bool b ∧ Aside0 (b = false → a.kind = 1 → a.F.kind ≠ 0 → makesB M0.K a.T = true) ∧ Aside0 (wc.heap[g12]? = some (.cells (mca M0 (.slice U0 M0.U.length cU0) (.slice T0 M0.T.length cT0) (.slice K0 M0.K.length cK0) (.slice D0 M0.D.length cD0)) 42 (0, 0))) ∧ Aside0 (MdO wc (fun k => k = g12 ∨ u13.ownBlock = some k) M0 (.slice U0 M0.U.length cU0) (.slice T0 M0.T.length cT0) (.slice K0 M0.K.length cK0) (.slice D0 M0.D.length cD0)) ∧ Aside0 (Kd.R (Kd.int .i64) 52 wc B0 (fun k => B0 ≤ k) u13 (runE M (L.take i))) ∧ Aside0 (Below w.heap.size w wc) ∧ Aside0 (w.heap.size ≤ wc.heap.size) ∧ Aside0 (B0 ≤ wc.heap.size))
   case first =>
    cases k1 : (a.kind == 1)
    case false =>
     refine start_ (n := 26) (S := fun w' => w'.cell? (ad.add (i * 83)) = some (.int .i64 a.kind) ∧ w'.cell? ⟨(ad.add (i * 83)).block, (ad.add (i * 83)).off + 1, none⟩ = some (.int .i64 a.F.kind) ∧ w'.cell? ⟨(ad.add (i * 83)).block, (ad.add (i * 83)).off + 80, none⟩ = some (.int .i64 a.T.f0) ∧ w'.cell? ⟨(ad.add (i * 83)).block, (ad.add (i * 83)).off + 81, none⟩ = some (.int .i64 a.T.f1) ∧ w'.cell? ⟨(ad.add (i * 83)).block, (ad.add (i * 83)).off + 82, none⟩ = some (.slice A2 a.T.f2.length c2) ∧ w'.cell? ⟨g12, 5, none⟩ = some (.slice K0 M0.K.length cK0)) (ds := []) #[false, false, false, false, false, false, false, false, false, false, false, false, false, false, false, false, false, false, false, false, false, false, false, false, false, false] (by kernel_rfl) rfl rfl ⟨a0, a1, t0, t1, t2, c5⟩ (fun hHeld => ?_)
     refine pz_ 0 (some 51) (bt_ 26 1) ?_
     refine pz_ 1 (some 52) (bt_ 26 3) ?_
     refine pz_ 2 (some 53) (bt_ 26 7) ?_
     refine pz_ 3 (some 54) (bt_ 26 15) ?_
     refine tz_ 4 (some 55) (bt_ 26 31) hHeld ?_
     refine pz_ 5 (some 56) (bt_ 26 63) ?_
     refine pz_ 6 (some 57) (bt_ 26 127) ?_
     refine oz_ 7 (some 58) (bt_ 26 255) ?_
     refine oz_ 8 (some 59) (bt_ 26 511) ?_
     refine oz_ 9 (some 60) (bt_ 26 1023) ?_
     refine oz_ 10 (some 61) (bt_ 26 2047) ?_
     refine oz_ 11 (some 62) (bt_ 26 4095) ?_
     refine oz_ 12 (some 63) (bt_ 26 8191) ?_
     refine oz_ 13 (some 64) (bt_ 26 16383) ?_
     refine pz_ 14 (some 65) (bt_ 26 32767) ?_
     refine pz_ 15 (some 66) (bt_ 26 65535) ?_
     refine oz_ 16 (some 67) (bt_ 26 131071) ?_
     refine oz_ 17 (some 68) (bt_ 26 262143) ?_
     refine oz_ 18 (some 69) (bt_ 26 524287) ?_
     refine oz_ 19 (some 70) (bt_ 26 1048575) ?_
     refine oz_ 20 (some 71) (bt_ 26 2097151) ?_
     refine oz_ 21 (some 72) (bt_ 26 4194303) ?_
     refine oz_ 22 (some 73) (bt_ 26 8388607) ?_
     refine oz_ 23 (some 74) (bt_ 26 16777215) ?_
     refine oz_ 24 (some 75) (bt_ 26 33554431) ?_
     refine pz_ 25 (some 76) (bt_ 26 67108863) ?_
     refine done_ (by kernel_rfl) ?_
     go_wp2
     go_meet
     case rel => exact ⟨false, rfl, ⟨fun _ h => absurd h (by simpa using k1)⟩, ⟨blk_below X12.out (drew_ wr)⟩, ⟨mdO_below ME.out (drew_ wr)⟩, ⟨Kd.R_below RE.out (drew_ wr)⟩, ⟨HB.out.trans (Below.mono (drew_ wr) LW.out)⟩, ⟨Nat.le_trans LW.out (Below.size (drew_ wr))⟩, ⟨Nat.le_trans LD.out (Below.size (drew_ wr))⟩⟩
    cases k2 : (a.F.kind != 0)
    case false =>
     refine start_ (n := 26) (S := fun w' => w'.cell? (ad.add (i * 83)) = some (.int .i64 a.kind) ∧ w'.cell? ⟨(ad.add (i * 83)).block, (ad.add (i * 83)).off + 1, none⟩ = some (.int .i64 a.F.kind) ∧ w'.cell? ⟨(ad.add (i * 83)).block, (ad.add (i * 83)).off + 80, none⟩ = some (.int .i64 a.T.f0) ∧ w'.cell? ⟨(ad.add (i * 83)).block, (ad.add (i * 83)).off + 81, none⟩ = some (.int .i64 a.T.f1) ∧ w'.cell? ⟨(ad.add (i * 83)).block, (ad.add (i * 83)).off + 82, none⟩ = some (.slice A2 a.T.f2.length c2) ∧ w'.cell? ⟨g12, 5, none⟩ = some (.slice K0 M0.K.length cK0)) (ds := []) #[false, false, false, false, false, false, false, false, false, false, false, false, false, false, false, false, false, false, false, false, false, false, false, false, false, false] (by kernel_rfl) rfl rfl ⟨a0, a1, t0, t1, t2, c5⟩ (fun hHeld => ?_)
     refine pz_ 0 (some 51) (bt_ 26 1) ?_
     refine pz_ 1 (some 52) (bt_ 26 3) ?_
     refine pz_ 2 (some 53) (bt_ 26 7) ?_
     refine pz_ 3 (some 54) (bt_ 26 15) ?_
     refine tz_ 4 (some 55) (bt_ 26 31) hHeld ?_
     refine pz_ 5 (some 56) (bt_ 26 63) ?_
     refine pz_ 6 (some 57) (bt_ 26 127) ?_
     refine pz_ 7 (some 58) (bt_ 26 255) ?_
     refine pz_ 8 (some 59) (bt_ 26 511) ?_
     refine pz_ 9 (some 60) (bt_ 26 1023) ?_
     refine pz_ 10 (some 61) (bt_ 26 2047) ?_
     refine pz_ 11 (some 62) (bt_ 26 4095) ?_
     refine tz_ 12 (some 63) (bt_ 26 8191) hHeld ?_
     refine pz_ 13 (some 64) (bt_ 26 16383) ?_
     refine pz_ 14 (some 65) (bt_ 26 32767) ?_
     refine pz_ 15 (some 66) (bt_ 26 65535) ?_
     refine oz_ 16 (some 67) (bt_ 26 131071) ?_
     refine oz_ 17 (some 68) (bt_ 26 262143) ?_
     refine oz_ 18 (some 69) (bt_ 26 524287) ?_
     refine oz_ 19 (some 70) (bt_ 26 1048575) ?_
     refine oz_ 20 (some 71) (bt_ 26 2097151) ?_
     refine oz_ 21 (some 72) (bt_ 26 4194303) ?_
     refine oz_ 22 (some 73) (bt_ 26 8388607) ?_
     refine oz_ 23 (some 74) (bt_ 26 16777215) ?_
     refine oz_ 24 (some 75) (bt_ 26 33554431) ?_
     refine pz_ 25 (some 76) (bt_ 26 67108863) ?_
     refine done_ (by kernel_rfl) ?_
     go_wp2
     go_meet
     case rel => exact ⟨false, rfl, ⟨fun _ _ h => absurd (by simpa using k2) h⟩, ⟨blk_below X12.out (drew_ wr)⟩, ⟨mdO_below ME.out (drew_ wr)⟩, ⟨Kd.R_below RE.out (drew_ wr)⟩, ⟨HB.out.trans (Below.mono (drew_ wr) LW.out)⟩, ⟨Nat.le_trans LW.out (Below.size (drew_ wr))⟩, ⟨Nat.le_trans LD.out (Below.size (drew_ wr))⟩⟩
    have TK := aq_ (told_C' (mdO_told ME.out).2.2.1)
    have TA2 := aq_ (told_C' TT.out)
    have HMB := aq_ (show a.kind = 1 ∧ a.F.kind ≠ 0 by simpa using And.intro k1 k2)
    refine start_ (n := 26) (S := fun w' => w'.cell? (ad.add (i * 83)) = some (.int .i64 a.kind) ∧ w'.cell? ⟨(ad.add (i * 83)).block, (ad.add (i * 83)).off + 1, none⟩ = some (.int .i64 a.F.kind) ∧ w'.cell? ⟨(ad.add (i * 83)).block, (ad.add (i * 83)).off + 80, none⟩ = some (.int .i64 a.T.f0) ∧ w'.cell? ⟨(ad.add (i * 83)).block, (ad.add (i * 83)).off + 81, none⟩ = some (.int .i64 a.T.f1) ∧ w'.cell? ⟨(ad.add (i * 83)).block, (ad.add (i * 83)).off + 82, none⟩ = some (.slice A2 a.T.f2.length c2) ∧ w'.cell? ⟨g12, 5, none⟩ = some (.slice K0 M0.K.length cK0)) (ds := []) #[false, false, false, false, false, false, false, false, false, false, false, false, false, false, false, false, false, false, false, false, false, false, false, false, false, false] (by kernel_rfl) rfl rfl ⟨a0, a1, t0, t1, t2, c5⟩ (fun hHeld => ?_)
    refine pz_ 0 (some 51) (bt_ 26 1) ?_
    refine pz_ 1 (some 52) (bt_ 26 3) ?_
    refine pz_ 2 (some 53) (bt_ 26 7) ?_
    refine pz_ 3 (some 54) (bt_ 26 15) ?_
    refine tz_ 4 (some 55) (bt_ 26 31) hHeld ?_
    refine pz_ 5 (some 56) (bt_ 26 63) ?_
    refine pz_ 6 (some 57) (bt_ 26 127) ?_
    refine pz_ 7 (some 58) (bt_ 26 255) ?_
    refine pz_ 8 (some 59) (bt_ 26 511) ?_
    refine pz_ 9 (some 60) (bt_ 26 1023) ?_
    refine pz_ 10 (some 61) (bt_ 26 2047) ?_
    refine pz_ 11 (some 62) (bt_ 26 4095) ?_
    refine tz_ 12 (some 63) (bt_ 26 8191) hHeld ?_
    refine pz_ 13 (some 64) (bt_ 26 16383) ?_
    refine pz_ 14 (some 65) (bt_ 26 32767) ?_
    refine pz_ 15 (some 66) (bt_ 26 65535) ?_
    refine pz_ 16 (some 67) (bt_ 26 131071) ?_
    refine pz_ 18 (some 69) (bt_ 26 393215) ?_
    refine pz_ 19 (some 70) (bt_ 26 917503) ?_
    refine pz_ 20 (some 71) (bt_ 26 1966079) ?_
    refine pz_ 21 (some 72) (bt_ 26 4063231) ?_
    refine tz_ 17 (some 68) (bt_ 26 4194303) hHeld ?_
    refine tz_ 22 (some 73) (bt_ 26 8388607) hHeld ?_
    refine gz_ 23 (some 74) (bt_ 26 16777215) Tryz.func11 #[.slice K0 M0.K.length cK0, .agg #[.int .i64 a.T.f0, .int .i64 a.T.f1, .slice A2 a.T.f2.length c2]] fun K hK => ?_
    with_reducible refine (makes_any M0.K a.T K0 A2 cK0 c2 _ KZ.out TZ.out (Kd.C_drew TK.out.2.2) TK.out.2.1 (Kd.C_drew TA2.out.2.2) TA2.out.2.1).mono ?_
    rintro e wq ⟨rfl, hb_⟩
    refine ⟨_, rfl, ?_⟩
    have BQ := aq_ hb_
    have a0_ := cell_bel (w := wr.drew) a0 hb_
    have a1_ := cell_bel (w := wr.drew) a1 hb_
    have t0_ := cell_bel (w := wr.drew) t0 hb_
    have t1_ := cell_bel (w := wr.drew) t1 hb_
    have t2_ := cell_bel (w := wr.drew) t2 hb_
    have c5_ := cell_bel (w := wr.drew) c5 hb_
    clear hb_
    refine hK.out _ _ ⟨a0_, a1_, t0_, t1_, t2_, c5_⟩ (fun hHeld => ?_)
    clear hK K
    refine nz_ ?_
    refine pz_ 24 (some 75) (bt_ 26 33554431) ?_
    refine pz_ 25 (some 76) (bt_ 26 67108863) ?_
    refine done_ (by kernel_rfl) ?_
    go_wp2
    go_meet
    case rel => exact ⟨_, rfl, ⟨fun h _ _ => by simpa using h⟩, ⟨blk_below X12.out (below_drew_trans BQ.out)⟩, ⟨mdO_below ME.out (below_drew_trans BQ.out)⟩, ⟨Kd.R_below RE.out (below_drew_trans BQ.out)⟩, ⟨HB.out.trans (Below.mono (below_drew_trans BQ.out) LW.out)⟩, ⟨Nat.le_trans LW.out (Below.size (below_drew_trans BQ.out))⟩, ⟨Nat.le_trans LD.out (Below.size (below_drew_trans BQ.out))⟩⟩
   case rest =>
    clear X12 ME RE HB LW LD TT a0 a1 t0 t1 t2 c5
    obtain ⟨b, rfl, HMK, X12, ME, RE, HB, LW, LD⟩ := hcut
    cases b
    case true =>
     go_wp2
     go_ret
     exact ⟨rfl, HB.out⟩
    replace HMK := aq_ (HMK.out rfl)
    obtain ⟨ad', A3, c3, hA', cA, hc3, hC3⟩ := at_A (Kd.C_below CA.out HB.out) i hlt a HA.out
    cases hA'
    have TT := aq_ (show Told k24 wc (.slice A3 a.T.f2.length c3) a.T.f2 from ⟨A3, c3, rfl, hc3, hC3⟩)
    have OWN := aq_ (show ∀ k, u13.ownBlock = some k → k < wc.heap.size from Kd.R_lt RE.out)
    have RL := aq_ (show ∀ k, (k = g12 ∨ u13.ownBlock = some k) → k < wc.heap.size from fun k hk => hk.elim (fun e => e ▸ blk_lt X12.out) (OWN.out k))
    have MED := aq_ (mdO_below ME.out (drew_ wc))
    have TTD := aq_ (told_belowG TT.out (drew_ wc))
    have RLD := aq_ (show ∀ k, (k = g12 ∨ u13.ownBlock = some k) → k < wc.drew.heap.size from RL.out)
    clear hC3 hc3
    go_wp2
    refine start_ (n := 12) (S := fun w' => w'.heap[g12]? = some (.cells (mca M0 (.slice U0 M0.U.length cU0) (.slice T0 M0.T.length cT0) (.slice K0 M0.K.length cK0) (.slice D0 M0.D.length cD0)) 42 (0, 0)) ∧ (∀ j v, (acl a (.slice A3 a.T.f2.length c3))[j]? = some v → w'.cell? ((ad.add (i * 83)).add j) = some v)) (ds := [10]) #[false, false, false, false, false, false, false, false, false, false, false, false] (by kernel_rfl) rfl rfl ⟨(blk_drew X12.out), (fun j v hv => cA j v hv)⟩ (fun hHeld => ?_)
    refine pz_ 1 (some 79) (bt_ 12 2) ?_
    refine pz_ 2 (some 80) (bt_ 12 6) ?_
    refine pz_ 3 (some 81) (bt_ 12 14) ?_
    refine ta_ 0 (some 78) ?_ (bt_ 12 15) rfl rfl (Or.inl ⟨by rfl, ?_⟩) hHeld ?_ ?_ ?_
    rotate_left
    ·rintro w' ⟨s0, s1⟩
     rw [exec_loadM (.tmp 12) (by rfl) (by rfl) s0]
    rotate_left
    ·simp only [pt_]
     rfl
    refine ta_ 4 (some 82) ?_ (bt_ 12 31) rfl rfl (Or.inl ⟨by rfl, ?_⟩) hHeld ?_ ?_ ?_
    rotate_left
    ·rintro w' ⟨s0, s1⟩
     rw [exec_loadAc (.tmp 81) (by rfl) (by rfl) s1]
    rotate_left
    ·simp only [pt_]
     rfl
    refine join_ (σ := (Value × Value × Value × Value) × Nat) 2 (bt_ 12 1023) (fun s => [(83, .tuple #[.agg (mca M1 s.1.1 s.1.2.1 s.1.2.2.1 s.1.2.2.2), .int .i64 e1]), (77, .tuple #[.agg (mca M1 s.1.1 s.1.2.1 s.1.2.2.1 s.1.2.2.2), .int .i64 e1]), (84, .agg (mca M1 s.1.1 s.1.2.1 s.1.2.2.1 s.1.2.2.2)), (85, .int .i64 e1), (15, .pointer (some ⟨s.2, 0, none⟩))]) (fun s w' => ForkS wc.drew s.1.1 s.1.2.1 s.1.2.2.1 s.1.2.2.2 s.2 M1 (fun k => k = g12 ∨ u13.ownBlock = some k) w') ?_ ?_
    rotate_left
    ·intro hCont
     refine two_ (i := 5) (j := 9) (Ni := some 83) (Nj := some 15) (bt_ 12 63) (bt_ 12 543) rfl rfl rfl rfl (by kernel_rfl) (by decide) (by decide) (fun K hK => ?_) (fun K hK => ?_)
     ·skip
      refine goes_ Tryz.func12 (by kernel_rfl) rfl #[.agg (mca M0 (.slice U0 M0.U.length cU0) (.slice T0 M0.T.length cT0) (.slice K0 M0.K.length cK0) (.slice D0 M0.D.length cD0)), .agg (aca a (.slice A3 a.T.f2.length c3))] (by rfl) rfl rfl (by simp only [List.map_toArray, List.map_cons, List.map_nil]; rfl) ?_
      with_reducible refine (step_at M0 a _ _ _ _ _ HST.out _ (fun k => k = g12 ∨ u13.ownBlock = some k) RLD.out MED.out WA.out trivial TTD.out).mono ?_
      rintro e wq ⟨vU', vT', vK', vD', rfl, hO, hb_⟩
      refine ⟨_, rfl, ?_⟩
      have OO := aq_ hO
      have BQ := aq_ hb_
      clear hO hb_
      refine hK.out _ _ ⟨(blk_below (blk_drew X12.out) BQ.out), (fun j v hv => cell_bel (w := wc.drew) (cA j v hv) BQ.out)⟩ (fun hHeld => ?_)
      clear hK K
      refine norm_ (a' := ?_) ?_ ?_
      rotate_left
      ·show Act.put _ (some 83) _ = _
       simp only [pt_]
       rfl
      refine pz_ 6 (some 77) (bt_ 12 127) ?_
      refine pz_ 7 (some 84) (bt_ 12 255) ?_
      refine pz_ 8 (some 85) (bt_ 12 511) ?_
      refine one_ (i := 9) (N := some 15) (bt_ 12 1023) rfl rfl (by kernel_rfl) (by decide) (fun K hK => ?_)
      refine value_ (w1 := ?_) (v := ?_) (by rfl) rfl ?_ ?_
      rotate_left 2
      ·go_simp
       constructor
       ·rfl
       ·rfl
      refine hK.out _ _ ⟨(blk_alloc (blk_below (blk_drew X12.out) BQ.out) _), (fun j v hv => alloc_far (cell_bel (w := wc.drew) (cA j v hv) BQ.out) _)⟩ (fun hHeld => ?_)
      clear hK K
      refine norm_ (a' := ?_) ?_ ?_
      rotate_left
      ·show Act.put _ (some 15) _ = _
       simp only [pt_]
       rfl
      exact norm_ (by simp only [putAll, Act.put, List.setIfInBounds_toArray, List.set_cons_zero, List.set_cons_succ]) (hCont ((vU', vT', vK', vD'), wq.heap.size) _ (forkS_1 OO.out BQ.out))
     ·skip
      refine value_ (w1 := ?_) (v := ?_) (by rfl) rfl ?_ ?_
      rotate_left 2
      ·go_simp
       constructor
       ·rfl
       ·rfl
      refine hK.out _ _ ⟨(blk_alloc (blk_drew X12.out) _), (fun j v hv => alloc_far (cA j v hv) _)⟩ (fun hHeld => ?_)
      clear hK K
      refine norm_ (a' := ?_) ?_ ?_
      rotate_left
      ·show Act.put _ (some 15) _ = _
       simp only [pt_]
       rfl
      refine gz_ 5 (some 83) (bt_ 12 575) Tryz.func12 #[.agg (mca M0 (.slice U0 M0.U.length cU0) (.slice T0 M0.T.length cT0) (.slice K0 M0.K.length cK0) (.slice D0 M0.D.length cD0)), .agg (aca a (.slice A3 a.T.f2.length c3))] fun K hK => ?_
      show Calls _ _ _ (wc.drew.alloc (.cells zmca 42)) _
      with_reducible refine (step_at M0 a _ _ _ _ _ HST.out _ (fun k => (fun k => k = g12 ∨ u13.ownBlock = some k) k ∨ k = wc.drew.heap.size) (fun k hk => hk.elim (fun h => Nat.lt_trans (RLD.out k h) (lt_al wc.drew _)) (fun h => h ▸ lt_al wc.drew _)) (mdO_add MED.out (below_alloc (Below.refl _ _) _) (Nat.le_refl _)) WA.out trivial (told_belowG TTD.out (below_alloc (Below.refl _ _) _))).mono ?_
      rintro e wq ⟨vU', vT', vK', vD', rfl, hO, hb_⟩
      refine ⟨_, rfl, ?_⟩
      have OO := aq_ hO
      have BQ := aq_ hb_
      clear hO hb_
      refine hK.out _ _ ⟨(blk_below (blk_alloc (blk_drew X12.out) _) BQ.out), (fun j v hv => cell_bel (w := (wc.drew.alloc (.cells zmca 42))) (alloc_far (cA j v hv) _) BQ.out)⟩ (fun hHeld => ?_)
      clear hK K
      refine nz_ ?_
      refine pz_ 6 (some 77) (bt_ 12 639) ?_
      refine pz_ 7 (some 84) (bt_ 12 767) ?_
      refine pz_ 8 (some 85) (bt_ 12 1023) ?_
      exact norm_ (by simp only [putAll, Act.put, List.setIfInBounds_toArray, List.set_cons_zero, List.set_cons_succ]) (hCont ((vU', vT', vK', vD'), wc.heap.size) _ (forkS_2 (w := wc.drew) OO.out BQ.out))
    rintro ⟨⟨vU', vT', vK', vD'⟩, g15⟩ w5 hF
    have FF := aq_ hF
    have hHeld : (w5.heap[g12]? = some (.cells (mca M0 (.slice U0 M0.U.length cU0) (.slice T0 M0.T.length cT0) (.slice K0 M0.K.length cK0) (.slice D0 M0.D.length cD0)) 42 (0, 0))) ∧ (∀ j v, (acl a (.slice A3 a.T.f2.length c3))[j]? = some v → w5.cell? ((ad.add (i * 83)).add j) = some v) := ⟨blk_below (blk_drew X12.out) FF.out.below, fun j v hv => cell_bel (w := wc.drew) (cA j v hv) FF.out.below⟩
    obtain ⟨⟨U1, cU1, eU⟩, ⟨T1, cT1, eT⟩, ⟨K1, cK1, eK⟩, ⟨D1, cD1, eD⟩⟩ := mdO_slices FF.out.md
    subst eU eT eK eD
    have TB := aq_ FF.out.box
    clear hF
    refine norm_ (a' := ?_) ?_ ?_
    rotate_left
    ·simp only [putAll, Act.put, List.setIfInBounds_toArray, List.set_cons_zero, List.set_cons_succ]
     rfl
    refine last_ (i := 10) (N := none) (bt_ 12 2047) rfl rfl (by kernel_rfl) (by decide) (fun K hK => ?_)
    refine store_Ms (by rfl) (.tmp 15) (.tmp 84) rfl rfl rfl rfl rfl TB.out ?_
    intro w6 hx1 hs1 hb1 hf1
    have BF := aq_ (hb1 _ _ FF.out.fresh FF.out.below)
    have X15 := aq_ hx1
    have ME1 := aq_ (mdO_sub FF.out.md hf1)
    have G15 := aq_ (show wc.heap.size ≤ g15 from FF.out.fresh)
    clear hx1 hs1 hb1 hf1
    refine hK.out _ _ ?_
    clear hK K
    refine pz_ 11 (some 16) (bt_ 12 4095) ?_
    refine done_ (by kernel_rfl) ?_
    replace HB := aq_ ((below_drew HB.out).trans (Below.mono BF.out (show w.heap.size ≤ wc.drew.heap.size from LW.out)))
    replace RE := aq_ (Kd.R_below (Kd.R_below RE.out (below_drew (Below.refl _ _))) BF.out)
    replace X12 := aq_ (blk_below (blk_drew X12.out) BF.out)
    replace LW := aq_ (Nat.le_trans (show w.heap.size ≤ wc.drew.heap.size from LW.out) BF.out.size)
    replace LD := aq_ (Nat.le_trans (show B0 ≤ wc.drew.heap.size from LD.out) BF.out.size)
    clear ME TT cA RL FF TB
    go_upto_if 96 with (first | ((with_reducible refine gate_builtin (b := .append) (xs := #[.tmp 86, .tmp 88]) rfl ?_); at_builtin; (refine Kd.R_append (Kd.int .i64) (w0 := w6) B0 rfl (.tmp 86) (.tmp 88) 43 52 (.int .i64 0) 8 rfl Tryz.underlying43 infoErr rfl (by decide) (by decide) u13 (runE M (L.take i)) e1 [.int .i64 e1] (fun k => B0 ≤ k) (fun _ => False) rfl rfl rfl (fun _ h => h.elim) (fun k hk => Nat.le_trans LD.out hk) RE.out (Below.refl _ _) LD.out (by have := HEL.out; omega) ?_); intro v1 w7 hR hb hg hat; have X15' := aq_ ((hg.block g15 (blk_lt X15.out) (fun e => by have := OWN.out g15 e.symm; have := G15.out; omega)).trans X15.out); have ME1' := aq_ (mdO_grown (rb := fun k => k = g12) ME1.out hg hat); clear X15 ME1; have X15 := X15'; have ME1 := ME1'; clear X15' ME1'; replace X12 := aq_ ((hb.block g12 L12.out).trans X12.out); replace HB := aq_ (HB.out.trans (Below.mono hb LB0.out)); replace LW := aq_ (Nat.le_trans LW.out hb.size); replace LD := aq_ (Nat.le_trans LD.out hb.size); obtain ⟨Ae, ce, rfl, hce, hCe⟩ := Kd.R_reads hR; have RE1 := aq_ hR; clear hR hb hg hat RE hce hCe) | (with_reducible refine ldL_ X15.out (Below.refl _ _) rfl rfl rfl (by with_unfolding_all rfl) (by kernel_rfl) ?_) | (with_reducible refine ldL_ X12.out (Below.refl _ _) rfl rfl rfl (by with_unfolding_all rfl) (by kernel_rfl) ?_))
    have c15 : w7.cell? ⟨g15, 6, none⟩ = some (.slice D1 M1.D.length cD1) := blk_cell X15.out 6
    have c12 : w7.cell? ⟨g12, 6, none⟩ = some (.slice D0 M0.D.length cD0) := blk_cell X12.out 6
    go_cut [17, 18, 19] (fun v17 v18 v19 wc => Aside0 (wc.heap[g12]? = some (.cells (mca M0 (.slice U0 M0.U.length cU0) (.slice T0 M0.T.length cT0) (.slice K0 M0.K.length cK0) (.slice D0 M0.D.length cD0)) 42 (0, 0))) ∧ Aside0 (wc.heap[g15]? = some (.cells (mca M1 (.slice U1 M1.U.length cU1) (.slice T1 M1.T.length cT1) (.slice K1 M1.K.length cK1) (.slice D1 M1.D.length cD1)) 42 (0, 0))) ∧ Aside0 (MdO wc (fun k => k = g12 ∨ (Value.slice Ae (runE M (L.take i) ++ [e1]).length ce).ownBlock = some k) M1 (.slice U1 M1.U.length cU1) (.slice T1 M1.T.length cT1) (.slice K1 M1.K.length cK1) (.slice D1 M1.D.length cD1)) ∧ Aside0 (Kd.R (Kd.int .i64) 52 wc B0 (fun k => B0 ≤ k) (Value.slice Ae (runE M (L.take i) ++ [e1]).length ce) (runE M (L.take i) ++ [e1])) ∧ Aside0 (Below w.heap.size w wc) ∧ Aside0 (w.heap.size ≤ wc.heap.size) ∧ Aside0 (B0 ≤ wc.heap.size))
    case first =>
     cases q : decide ((M0.D.length : Int) < M1.D.length)
     case false =>
      have qn : decide (M0.D.length < M1.D.length) = false := by simpa using q
      rw [qn]
      go_wp2
      go_meet
      case rel => exact ⟨X12, X15, ME1, RE1, HB, LW, LD⟩
     have qn : decide (M0.D.length < M1.D.length) = true := by simpa using q
     rw [qn]
     obtain ⟨k1, k4, x, hx, hD, hp, hT, hro⟩ := HDN.out (by simpa using q)
     have hor := agree_of HKI.out (WA.out.2.2.2 x hx) WA0.out.2 k4 hp hT (HMK.out k1 (by rw [k4]; decide))
     obtain ⟨d, hd0⟩ : ∃ d, doneM x a.F = d := ⟨_, rfl⟩
     have hud : x.user = d.user := by rw [← hd0]; rfl
     have hcd : a.F.cmd = d.cmd := by rw [← hd0]; rfl
     rw [hd0] at hor hD
     rw [hud] at hor hro
     rw [hcd, UM.out] at hro
     have HRO := aq_ hro
     obtain ⟨was, hwas⟩ : ∃ b, sentB d ((L.take i).zip (runE M (L.take i))) = b := ⟨_, rfl⟩
     obtain ⟨comp, hcomp⟩ : ∃ b, inL (keysL bad) (keyP d.user) = b := ⟨_, rfl⟩
     have HCO := aq_ hcomp
     have HWS := aq_ (show sentB d ((L.zip (runE M (L.take i) ++ [e1])).take i) = was by rw [zip_take HEL.out, hwas])
     have HOR := aq_ (show was = true ∨ comp = true by rw [← hwas, ← hcomp]; exact hor)
     have hlen : M1.D.length = M0.D.length + 1 := by rw [hD, List.length_append]; rfl
     have hlt2 : M0.D.length < M1.D.length := by omega
     have hmd : M1.D.length ≤ 9223372036854775807 := (told_C' (mdO_told ME1.out).2.2.2).2.2.2.1
     have hw1 : wrap64 ((M1.D.length : Int) - 1) = (M0.D.length : Int) := by rw [w64 (by omega) (by omega)]; omega
     have hx1 : M1.D[M0.D.length]? = some d := by rw [hD]; simp
     have HX1 := aq_ hx1
     obtain ⟨ae, hae, x0, x1, x2, x3, x4, x5, x6⟩ := at_D (told_C' (mdO_told ME1.out).2.2.2).2.2 M0.D.length hlt2 d hx1
     subst hae
     clear hor hp hT hro hx hwas hcomp hx1 hD
     go_upto_region 17 with (first
      | ((with_reducible refine alloc_Do rfl rfl ?_); intro g17 hgt w8 hbox hb; have ALB := aq_ hb; have ALG := aq_ hgt; have TB := aq_ hbox; clear hgt hbox hb)
      | ((with_reducible refine store_Do (.tmp 17) (.tmp 104) rfl rfl rfl d rfl rfl rfl TB.out ?_); intro w9 hx1 hb1; have hbt := ALB.out.trans (hb1 _ (Nat.le_of_eq ALG.out.symm)); replace HB := aq_ (HB.out.trans (Below.mono hbt LW.out)); replace LW := aq_ (Nat.le_trans LW.out (Below.size hbt)); replace LD := aq_ (Nat.le_trans LD.out (Below.size hbt)); replace X12 := aq_ (blk_below X12.out hbt); replace X15 := aq_ (blk_below X15.out hbt); replace ME1 := aq_ (mdO_below ME1.out hbt); replace RE1 := aq_ (Kd.R_below RE1.out hbt); have X17 := aq_ hx1; clear hx1 hb1 hbt ALB ALG TB))
     clear x0 x1 x2 x3 x4 x5 x6 c15 c12
     have d0 : w9.cell? ⟨g17, 0, none⟩ = some (.int .i64 d.user) := blk_cell X17.out 0
     have d1 : w9.cell? ⟨g17, 1, none⟩ = some (.int .i64 d.epoch) := blk_cell X17.out 1
     have d2 : w9.cell? ⟨g17, 2, none⟩ = some (.int .u64 d.draw) := blk_cell X17.out 2
     have d3 : w9.cell? ⟨g17, 3, none⟩ = some (.int .u64 d.cn) := blk_cell X17.out 3
     have d4 : w9.cell? ⟨g17, 4, none⟩ = some (.int .u64 d.count) := blk_cell X17.out 4
     have d5 : w9.cell? ⟨g17, 5, none⟩ = some (.int .i64 d.cmd) := blk_cell X17.out 5
     have d6 : w9.cell? ⟨g17, 6, none⟩ = some (.int .i64 d.arg) := blk_cell X17.out 6
     have hil : i ≤ L.length := hi
     have hie : i ≤ (runE M (L.take i) ++ [e1]).length := by rw [List.length_append, HEL.out]; exact Nat.le_succ _
     go_upto_region 18 with ((go_at_call 13; (with_reducible refine (sent_len d L (runE M (L.take i) ++ [e1]) _ Ae c ce i _ _ (Kd.C_below CA.out HB.out) (Kd.R_reads' RE1.out).2.2 hil hie (by simp) was HWS.out).mono ?_)); rintro e wp ⟨rfl, hbt⟩; replace HB := aq_ (HB.out.trans (Below.mono hbt LW.out)); replace LW := aq_ (Nat.le_trans LW.out (Below.size hbt)); replace LD := aq_ (Nat.le_trans LD.out (Below.size hbt)); replace X12 := aq_ (blk_below X12.out hbt); replace X15 := aq_ (blk_below X15.out hbt); replace ME1 := aq_ (mdO_below ME1.out hbt); replace RE1 := aq_ (Kd.R_below RE1.out hbt); replace X17 := aq_ (blk_below X17.out hbt); clear hbt)
     clear d0 d1 d2 d3 d4 d5 d6
     have d0 : wp.cell? ⟨g17, 0, none⟩ = some (.int .i64 d.user) := blk_cell X17.out 0
     go_wp2
     refine start_ (n := 10) (S := fun w' => w'.cell? ⟨g17, 0, none⟩ = some (.int .i64 d.user)) (ds := []) #[false, false, false, false, false, false, false, false, false, false] (by kernel_rfl) rfl rfl (d0) (fun hHeld => ?_)
     refine pz_ 0 (some 110) (bt_ 10 1) ?_
     refine pz_ 1 (some 111) (bt_ 10 3) ?_
     refine pz_ 2 (some 112) (bt_ 10 7) ?_
     refine pz_ 5 (some 115) (bt_ 10 39) ?_
     refine tz_ 6 (some 116) (bt_ 10 103) hHeld ?_
     refine gz_ 3 (some 113) (bt_ 10 111) Tryz.func10 #[.slice AU U.length cU, .slice AB bad.length cB, .int .i64 idle] fun K hK => ?_
     with_reducible refine (startB_any U AU cU bad AB cB idle _ (Kd.C_drew (Kd.C_below CB.out HB.out)) (Nat.le_trans hb20 (by decide))).mono ?_
     rintro e wq1 ⟨vKs, rfl, hN, hb_⟩
     refine ⟨_, rfl, ?_⟩
     obtain ⟨AS, cS, rfl, _, hCS⟩ := Kd.N_reads hN
     have CS := aq_ hCS
     have B1_ := aq_ hb_
     have d0_1 := cell_bel (w := wp.drew) d0 hb_
     clear hb_ hN hCS
     refine hK.out _ _ (d0_1) (fun hHeld => ?_)
     clear hK K
     refine nz_ ?_
     refine pu_ 4 (some 114) ?_ (bt_ 10 127) rfl rfl (Or.inl ⟨by rfl, ?_⟩) ?_ ?_ ?_
     rotate_left
     ·intro w'
      rw [exec_fieldK (.tmp 113) (by rfl) (by rfl)]
     rotate_left
     ·simp only [pt_]
      rfl
     refine gz_ 7 (some 117) (bt_ 10 255) Tryz.func15 #[.int .i64 d.user] fun K hK => ?_
     with_reducible refine (keyL_any d.user _).mono ?_
     rintro e wq2 ⟨rfl, hb_⟩
     refine ⟨_, rfl, ?_⟩
     have B2_ := aq_ (B1_.out.trans (Below.mono hb_ B1_.out.size))
     replace CS := aq_ (Kd.C_below CS.out hb_)
     have d0_2 := cell_bel d0_1 hb_
     clear hb_
     refine hK.out _ _ (d0_2) (fun hHeld => ?_)
     clear hK K
     refine nz_ ?_
     refine gz_ 8 (some 118) (bt_ 10 511) Tryz.func14 #[.slice AS (keysL bad).length cS, .agg #[.int .i64 1, .int .i64 d.user, .slice none 0 0]] fun K hK => ?_
     with_reducible refine (refInK_any (keysL bad) d.user AS cS _ CS.out).mono ?_
     rintro e wo ⟨he_, hb_⟩
     rw [HCO.out] at he_
     subst he_
     refine ⟨_, rfl, ?_⟩
     have B3_ := aq_ (B2_.out.trans (Below.mono hb_ B2_.out.size))
     have d0_3 := cell_bel d0_2 hb_
     clear hb_
     refine hK.out _ _ (d0_3) (fun hHeld => ?_)
     clear hK K
     refine nz_ ?_
     refine pz_ 9 (some 19) (bt_ 10 1023) ?_
     refine done_ (by kernel_rfl) ?_
     have hbt := below_drew_trans B3_.out
     replace HB := aq_ (HB.out.trans (Below.mono hbt LW.out))
     replace LW := aq_ (Nat.le_trans LW.out (Below.size hbt))
     replace LD := aq_ (Nat.le_trans LD.out (Below.size hbt))
     replace X12 := aq_ (blk_below X12.out hbt)
     replace X15 := aq_ (blk_below X15.out hbt)
     replace ME1 := aq_ (mdO_below ME1.out hbt)
     replace RE1 := aq_ (Kd.R_below RE1.out hbt)
     replace X17 := aq_ (blk_below X17.out hbt)
     clear d0 hbt
     have d0 : wo.cell? ⟨g17, 0, none⟩ = some (.int .i64 d.user) := blk_cell X17.out 0
     have d5 : wo.cell? ⟨g17, 5, none⟩ = some (.int .i64 d.cmd) := blk_cell X17.out 5
     go_wp2
     cases was
     ·have hct : comp = true := HOR.out.elim (fun h => by cases h) id
      subst hct
      refine start_ (n := 16) (S := fun w' => w'.cell? ⟨g17, 0, none⟩ = some (.int .i64 d.user) ∧ w'.cell? ⟨g17, 5, none⟩ = some (.int .i64 d.cmd)) (ds := []) #[false, false, false, false, false, false, false, false, false, false, false, false, false, false, false, false] (by kernel_rfl) rfl rfl ⟨d0, d5⟩ (fun hHeld => ?_)
      refine pz_ 0 (some 119) (bt_ 16 1) ?_
      refine pz_ 1 (some 120) (bt_ 16 3) ?_
      refine pz_ 4 (some 123) (bt_ 16 19) ?_
      refine tz_ 2 (some 121) (bt_ 16 23) hHeld ?_
      refine tz_ 5 (some 124) (bt_ 16 55) hHeld ?_
      refine gz_ 3 (some 122) (bt_ 16 63) Tryz.func17 #[.slice AU U.length cU, .int .i64 d.user] fun K hK => ?_
      with_reducible refine (urole_any U AU cU d.user _ (Kd.C_drew (Kd.C_below CU.out HB.out))).mono ?_
      rintro e wq4 ⟨rfl, hb_⟩
      refine ⟨_, rfl, ?_⟩
      have B4_ := aq_ hb_
      have d0_4 := cell_bel (w := wo.drew) d0 hb_
      have d5_4 := cell_bel (w := wo.drew) d5 hb_
      clear hb_
      refine hK.out _ _ ⟨d0_4, d5_4⟩ (fun hHeld => ?_)
      clear hK K
      refine nz_ ?_
      refine gz_ 6 (some 125) (bt_ 16 127) Tryz.func16 #[.int .i64 (roleU U d.user), .int .i64 d.cmd] fun K hK => ?_
      with_reducible refine (rmay_true (roleU U d.user) d.cmd _ HRO.out).mono ?_
      rintro e wq5 ⟨rfl, hb_⟩
      refine ⟨_, rfl, ?_⟩
      have B5_ := aq_ (B4_.out.trans (Below.mono hb_ B4_.out.size))
      have d0_5 := cell_bel d0_4 hb_
      have d5_5 := cell_bel d5_4 hb_
      clear hb_
      refine hK.out _ _ ⟨d0_5, d5_5⟩ (fun hHeld => ?_)
      clear hK K
      refine nz_ ?_
      refine pz_ 7 (some 126) (bt_ 16 255) ?_
      refine pz_ 8 (some 127) (bt_ 16 511) ?_
      refine pz_ 9 (some 128) (bt_ 16 1023) ?_
      refine pz_ 10 (some 129) (bt_ 16 2047) ?_
      refine pz_ 11 (some 130) (bt_ 16 4095) ?_
      refine pz_ 12 (some 131) (bt_ 16 8191) ?_
      refine pz_ 13 (some 132) (bt_ 16 16383) ?_
      refine pz_ 14 (some 133) (bt_ 16 32767) ?_
      refine pz_ 15 (some 134) (bt_ 16 65535) ?_
      refine done_ (by kernel_rfl) ?_
      have hbt := below_drew_trans B5_.out
      go_wp2
      go_meet
      case rel => exact ⟨⟨blk_below X12.out hbt⟩, ⟨blk_below X15.out hbt⟩, ⟨mdO_below ME1.out hbt⟩, ⟨Kd.R_below RE1.out hbt⟩, ⟨HB.out.trans (Below.mono hbt LW.out)⟩, ⟨Nat.le_trans LW.out (Below.size hbt)⟩, ⟨Nat.le_trans LD.out (Below.size hbt)⟩⟩
     ·skip
      refine start_ (n := 16) (S := fun w' => w'.cell? ⟨g17, 0, none⟩ = some (.int .i64 d.user) ∧ w'.cell? ⟨g17, 5, none⟩ = some (.int .i64 d.cmd)) (ds := []) #[false, false, false, false, false, false, false, false, false, false, false, false, false, false, false, false] (by kernel_rfl) rfl rfl ⟨d0, d5⟩ (fun hHeld => ?_)
      refine pz_ 0 (some 119) (bt_ 16 1) ?_
      refine pz_ 1 (some 120) (bt_ 16 3) ?_
      refine pz_ 4 (some 123) (bt_ 16 19) ?_
      refine tz_ 2 (some 121) (bt_ 16 23) hHeld ?_
      refine tz_ 5 (some 124) (bt_ 16 55) hHeld ?_
      refine gz_ 3 (some 122) (bt_ 16 63) Tryz.func17 #[.slice AU U.length cU, .int .i64 d.user] fun K hK => ?_
      with_reducible refine (urole_any U AU cU d.user _ (Kd.C_drew (Kd.C_below CU.out HB.out))).mono ?_
      rintro e wq4 ⟨rfl, hb_⟩
      refine ⟨_, rfl, ?_⟩
      have B4_ := aq_ hb_
      have d0_4 := cell_bel (w := wo.drew) d0 hb_
      have d5_4 := cell_bel (w := wo.drew) d5 hb_
      clear hb_
      refine hK.out _ _ ⟨d0_4, d5_4⟩ (fun hHeld => ?_)
      clear hK K
      refine nz_ ?_
      refine gz_ 6 (some 125) (bt_ 16 127) Tryz.func16 #[.int .i64 (roleU U d.user), .int .i64 d.cmd] fun K hK => ?_
      with_reducible refine (rmay_true (roleU U d.user) d.cmd _ HRO.out).mono ?_
      rintro e wq5 ⟨rfl, hb_⟩
      refine ⟨_, rfl, ?_⟩
      have B5_ := aq_ (B4_.out.trans (Below.mono hb_ B4_.out.size))
      have d0_5 := cell_bel d0_4 hb_
      have d5_5 := cell_bel d5_4 hb_
      clear hb_
      refine hK.out _ _ ⟨d0_5, d5_5⟩ (fun hHeld => ?_)
      clear hK K
      refine nz_ ?_
      refine pz_ 7 (some 126) (bt_ 16 255) ?_
      refine pz_ 8 (some 127) (bt_ 16 511) ?_
      refine pz_ 9 (some 128) (bt_ 16 1023) ?_
      refine pz_ 10 (some 129) (bt_ 16 2047) ?_
      refine pz_ 11 (some 130) (bt_ 16 4095) ?_
      refine oz_ 12 (some 131) (bt_ 16 8191) ?_
      refine oz_ 13 (some 132) (bt_ 16 16383) ?_
      refine pz_ 14 (some 133) (bt_ 16 32767) ?_
      refine pz_ 15 (some 134) (bt_ 16 65535) ?_
      refine done_ (by kernel_rfl) ?_
      have hbt := below_drew_trans B5_.out
      go_wp2
      go_meet
      case rel => exact ⟨⟨blk_below X12.out hbt⟩, ⟨blk_below X15.out hbt⟩, ⟨mdO_below ME1.out hbt⟩, ⟨Kd.R_below RE1.out hbt⟩, ⟨HB.out.trans (Below.mono hbt LW.out)⟩, ⟨Nat.le_trans LW.out (Below.size hbt)⟩, ⟨Nat.le_trans LD.out (Below.size hbt)⟩⟩
    case rest =>
     clear X12 X15 ME1 RE1 HB LW LD c15 c12
     obtain ⟨X12, X15, ME1, RE1, HB, LW, LD⟩ := hcut
     go_wp2_with (first
      | (with_reducible refine load_Mo (.tmp 15) rfl rfl rfl X15.out ?_)
      | ((with_reducible refine store_Mo (.tmp 12) (.tmp 135) rfl rfl rfl rfl rfl rfl rfl rfl rfl rfl X12.out ?_); intro w8 hx1 hs1 hb1 hf1; have XF := aq_ hx1; have HF := aq_ (hb1 _ _ G12.out HB.out); have LF := aq_ (show B0 ≤ w8.heap.size by rw [hs1]; exact LD.out); have MF := aq_ (mdO_far ME1.out fun k hk => hf1 k fun e => hk (.inl e)); have RF := aq_ (Kd.R_step RE1.out fun k hk _ => hf1 k fun e => by have := L12.out; omega); clear hx1 hs1 hb1 hf1))
     go_roundw
     case rel => exact ⟨i + 1, _, U1, T1, K1, D1, cU1, cT1, cK1, cD1, M1, by omega, by go_num, rfl, HT1, ⟨by rw [HE1.out, zip_snoc HA.out HEL.out]; exact HK1.out⟩, ⟨by rw [HE1.out]; have h := RF.out; rw [List.length_append] at h; exact h⟩, XF, ⟨by have h := MF.out; rw [List.length_append] at h; exact h⟩, HF, ⟨HF.out.size⟩, LF⟩
     case measure => simp [intOf]; omega
  ·obtain rfl : i = L.length := by omega
   have hd : decide ((L.length : Int) < L.length) = false := by simp
   go_wp2
   go_ret
   exact ⟨rfl, HB.out⟩
end Go.Proofs.YtdinphnljokigaaGreat.P
end
