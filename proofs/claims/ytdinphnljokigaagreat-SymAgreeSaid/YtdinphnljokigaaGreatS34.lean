/- What LawSymAgree rests on, part 34: several texts put together. -/
import Derived.Test.YtdinphnljokigaaGreatS33
import Derived.Test.YtdinphnljokigaaGreatS29
import Derived.Test.YtdinphnljokigaaGreatS15
import Derived.Test.YtdinphnljokigaaGreatS3
set_option linter.unusedVariables false
set_option linter.unnecessarySimpa false
set_option linter.unusedSimpArgs false
set_option maxRecDepth 100000
section
namespace Go.Proofs.YtdinphnljokigaaGreat.P
open Go.RowKit Go.Lib Go.Proofs.YtdinphnljokigaaGreatW.PrintWords Go.Proofs.YtdinphnljokigaaGreatW.PrintLast Go.Proofs.YtdinphnljokigaaGreatW.PrintMore
def giveM (M : Mdl) (a : Ac) : Mdl × Int := if bareB a.F = false then (M, 3) else if a.F.kind = 0 then helloM M a else if a.F.kind = 2 ∨ a.F.kind = 4 then provedM M a else (M, 3)
set_option maxHeartbeats 4000000 in
theorem give_0 (M : Mdl) (a : Ac) (vU vT vK vD vA : Value) (w0 w : World) (base g : Nat) (rb : Nat → Prop) (hm : MBox w base g rb M vU vT vK vD) (hB : Below base w0 w) (hb : base ≤ w.heap.size) (hT : M.T.length < 1000000) (hD : M.D.length < 1000000) (hW : wfF a.F) (hS : ∀ x ∈ M.T, wfS x) (hA : Told k24 w vA a.T.f2) (hp : bareB a.F = false) :
  Calls Tryz.prog 29 #[.pointer (some ⟨g, 0, none⟩), .agg (aca a vA)] w fun e w' => ∃ vT' vD', e = .returned (.int .i64 (giveM M a).2) ∧ w'.heap[g]? = some (.cells (mca (giveM M a).1 vU vT' vK vD') 42 (0, 0)) ∧ MdO w' rb (giveM M a).1 vU vT' vK vD' ∧ Below base w0 w' := by
 have HE := aq_ (show giveM M a = (M, 3) by unfold giveM; rw [if_pos hp])
 have HP := aq_ hp
 clear hp
 have MB := aq_ hm
 have HB := aq_ hB
 have LB := aq_ hb
 have TL := aq_ hT
 have DL := aq_ hD
 have HW := aq_ hW
 have HS := aq_ hS
 have TA := aq_ hA
 clear hm hB hb hT hD hW hS hA
 go_enter Tryz.func29, Tryz.ntmps29
 go_wp2_with (first
  | ((with_reducible refine box_Ac (.tmp 1) (x := a) (v := vA) rfl rfl rfl ?_); intro ga hga w1 hbox hb; replace MB := aq_ (mbox_below MB.out hb); replace TA := aq_ (told_belowG TA.out hb); replace HB := aq_ (HB.out.trans (Below.mono hb LB.out)); replace LB := aq_ (Nat.le_trans LB.out (Below.size hb)); have AB := aq_ hbox; clear hga hbox hb)
  | (with_reducible refine load_F (.tmp 5) rfl rfl (p := ⟨ga, 1, none⟩) rfl (boxA_F AB.out) ?_)
  | ((go_at_call 35; (with_reducible refine (sbare_any a.F _ HW.out).mono ?_)); rintro e w2 ⟨he_, hb⟩; rw [HP.out] at he_; subst he_; replace MB := aq_ (mbox_below MB.out hb); replace TA := aq_ (told_belowG TA.out hb); replace AB := aq_ (blk_below AB.out hb); replace HB := aq_ (HB.out.trans (Below.mono hb LB.out)); replace LB := aq_ (Nat.le_trans LB.out (Below.size hb)); have c1 := (cellsA_F AB.out).1; clear hb))
 go_ret
 exact ⟨_, _, by rw [HE.out]; rfl, by rw [HE.out]; exact MB.out.1, by rw [HE.out]; exact mbox_mdo MB.out, HB.out⟩
set_option maxHeartbeats 4000000 in
theorem give_1 (M : Mdl) (a : Ac) (vU vT vK vD vA : Value) (w0 w : World) (base g : Nat) (rb : Nat → Prop) (hm : MBox w base g rb M vU vT vK vD) (hB : Below base w0 w) (hb : base ≤ w.heap.size) (hT : M.T.length < 1000000) (hD : M.D.length < 1000000) (hW : wfF a.F) (hS : ∀ x ∈ M.T, wfS x) (hA : Told k24 w vA a.T.f2) (hp : bareB a.F = true) (hk : a.F.kind = 0) :
  Calls Tryz.prog 29 #[.pointer (some ⟨g, 0, none⟩), .agg (aca a vA)] w fun e w' => ∃ vT' vD', e = .returned (.int .i64 (giveM M a).2) ∧ w'.heap[g]? = some (.cells (mca (giveM M a).1 vU vT' vK vD') 42 (0, 0)) ∧ MdO w' rb (giveM M a).1 vU vT' vK vD' ∧ Below base w0 w' := by
 have HE := aq_ (show giveM M a = helloM M a by unfold giveM; rw [if_neg (by rw [hp]; decide), if_pos hk])
 have HP := aq_ hp
 clear hp
 have q0 : (a.F.kind == 0) = true := by simp [hk]
 clear hk
 have MB := aq_ hm
 have HB := aq_ hB
 have LB := aq_ hb
 have TL := aq_ hT
 have DL := aq_ hD
 have HW := aq_ hW
 have HS := aq_ hS
 have TA := aq_ hA
 clear hm hB hb hT hD hW hS hA
 go_enter Tryz.func29, Tryz.ntmps29
 go_wp2_with (first
  | ((with_reducible refine box_Ac (.tmp 1) (x := a) (v := vA) rfl rfl rfl ?_); intro ga hga w1 hbox hb; replace MB := aq_ (mbox_below MB.out hb); replace TA := aq_ (told_belowG TA.out hb); replace HB := aq_ (HB.out.trans (Below.mono hb LB.out)); replace LB := aq_ (Nat.le_trans LB.out (Below.size hb)); have AB := aq_ hbox; clear hga hbox hb)
  | (with_reducible refine load_F (.tmp 5) rfl rfl (p := ⟨ga, 1, none⟩) rfl (boxA_F AB.out) ?_)
  | ((go_at_call 35; (with_reducible refine (sbare_any a.F _ HW.out).mono ?_)); rintro e w2 ⟨he_, hb⟩; rw [HP.out] at he_; subst he_; replace MB := aq_ (mbox_below MB.out hb); replace TA := aq_ (told_belowG TA.out hb); replace AB := aq_ (blk_below AB.out hb); replace HB := aq_ (HB.out.trans (Below.mono hb LB.out)); replace LB := aq_ (Nat.le_trans LB.out (Below.size hb)); have c1 := (cellsA_F AB.out).1; clear hb)
  | (with_reducible refine load_Ac (.tmp 3) rfl rfl (p := ⟨ga, 0, none⟩) rfl (boxA AB.out) ?_)
  | ((go_at_call 64; (with_reducible refine (hello_any M a vU vT vK vD vA w0 _ base g rb MB.out HB.out LB.out TL.out).mono ?_)); rintro e w3 ⟨vT', rfl, h1, h2, h3⟩; have H1 := aq_ h1; have H2 := aq_ h2; have H3 := aq_ h3; clear h1 h2 h3))
 go_ret
 exact ⟨_, _, by rw [HE.out]; rfl, by rw [HE.out]; exact H1.out, by rw [HE.out]; exact H2.out, H3.out⟩
set_option maxHeartbeats 4000000 in
theorem give_2 (M : Mdl) (a : Ac) (vU vT vK vD vA : Value) (w0 w : World) (base g : Nat) (rb : Nat → Prop) (hm : MBox w base g rb M vU vT vK vD) (hB : Below base w0 w) (hb : base ≤ w.heap.size) (hT : M.T.length < 1000000) (hD : M.D.length < 1000000) (hW : wfF a.F) (hS : ∀ x ∈ M.T, wfS x) (hA : Told k24 w vA a.T.f2) (hp : bareB a.F = true) (hk : a.F.kind = 2) :
  Calls Tryz.prog 29 #[.pointer (some ⟨g, 0, none⟩), .agg (aca a vA)] w fun e w' => ∃ vT' vD', e = .returned (.int .i64 (giveM M a).2) ∧ w'.heap[g]? = some (.cells (mca (giveM M a).1 vU vT' vK vD') 42 (0, 0)) ∧ MdO w' rb (giveM M a).1 vU vT' vK vD' ∧ Below base w0 w' := by
 have HE := aq_ (show giveM M a = provedM M a by unfold giveM; rw [if_neg (by rw [hp]; decide), if_neg (by omega), if_pos (.inl hk)])
 have HP := aq_ hp
 clear hp
 have q0 : (a.F.kind == 0) = false := by simp [hk]
 have q2 : (a.F.kind == 2) = true := by simp [hk]
 clear hk
 have MB := aq_ hm
 have HB := aq_ hB
 have LB := aq_ hb
 have TL := aq_ hT
 have DL := aq_ hD
 have HW := aq_ hW
 have HS := aq_ hS
 have TA := aq_ hA
 clear hm hB hb hT hD hW hS hA
 go_enter Tryz.func29, Tryz.ntmps29
 go_wp2_with (first
  | ((with_reducible refine box_Ac (.tmp 1) (x := a) (v := vA) rfl rfl rfl ?_); intro ga hga w1 hbox hb; replace MB := aq_ (mbox_below MB.out hb); replace TA := aq_ (told_belowG TA.out hb); replace HB := aq_ (HB.out.trans (Below.mono hb LB.out)); replace LB := aq_ (Nat.le_trans LB.out (Below.size hb)); have AB := aq_ hbox; clear hga hbox hb)
  | (with_reducible refine load_F (.tmp 5) rfl rfl (p := ⟨ga, 1, none⟩) rfl (boxA_F AB.out) ?_)
  | ((go_at_call 35; (with_reducible refine (sbare_any a.F _ HW.out).mono ?_)); rintro e w2 ⟨he_, hb⟩; rw [HP.out] at he_; subst he_; replace MB := aq_ (mbox_below MB.out hb); replace TA := aq_ (told_belowG TA.out hb); replace AB := aq_ (blk_below AB.out hb); replace HB := aq_ (HB.out.trans (Below.mono hb LB.out)); replace LB := aq_ (Nat.le_trans LB.out (Below.size hb)); have c1 := (cellsA_F AB.out).1; clear hb)
  | (with_reducible refine load_Ac (.tmp 3) rfl rfl (p := ⟨ga, 0, none⟩) rfl (boxA AB.out) ?_)
  | ((go_at_call 65; (with_reducible refine (proved_any M a vU vT vK vD vA w0 _ base g rb MB.out HB.out LB.out TL.out DL.out HW.out HS.out TA.out).mono ?_)); rintro e w3 ⟨vT', vD', rfl, h1, h2, h3⟩; have H1 := aq_ h1; have H2 := aq_ h2; have H3 := aq_ h3; clear h1 h2 h3))
 go_ret
 exact ⟨_, _, by rw [HE.out]; rfl, by rw [HE.out]; exact H1.out, by rw [HE.out]; exact H2.out, H3.out⟩
set_option maxHeartbeats 4000000 in
theorem give_3 (M : Mdl) (a : Ac) (vU vT vK vD vA : Value) (w0 w : World) (base g : Nat) (rb : Nat → Prop) (hm : MBox w base g rb M vU vT vK vD) (hB : Below base w0 w) (hb : base ≤ w.heap.size) (hT : M.T.length < 1000000) (hD : M.D.length < 1000000) (hW : wfF a.F) (hS : ∀ x ∈ M.T, wfS x) (hA : Told k24 w vA a.T.f2) (hp : bareB a.F = true) (hk : a.F.kind = 4) :
  Calls Tryz.prog 29 #[.pointer (some ⟨g, 0, none⟩), .agg (aca a vA)] w fun e w' => ∃ vT' vD', e = .returned (.int .i64 (giveM M a).2) ∧ w'.heap[g]? = some (.cells (mca (giveM M a).1 vU vT' vK vD') 42 (0, 0)) ∧ MdO w' rb (giveM M a).1 vU vT' vK vD' ∧ Below base w0 w' := by
 have HE := aq_ (show giveM M a = provedM M a by unfold giveM; rw [if_neg (by rw [hp]; decide), if_neg (by omega), if_pos (.inr hk)])
 have HP := aq_ hp
 clear hp
 have q0 : (a.F.kind == 0) = false := by simp [hk]
 have q2 : (a.F.kind == 2) = false := by simp [hk]
 have q4 : (a.F.kind == 4) = true := by simp [hk]
 clear hk
 have MB := aq_ hm
 have HB := aq_ hB
 have LB := aq_ hb
 have TL := aq_ hT
 have DL := aq_ hD
 have HW := aq_ hW
 have HS := aq_ hS
 have TA := aq_ hA
 clear hm hB hb hT hD hW hS hA
 go_enter Tryz.func29, Tryz.ntmps29
 go_wp2_with (first
  | ((with_reducible refine box_Ac (.tmp 1) (x := a) (v := vA) rfl rfl rfl ?_); intro ga hga w1 hbox hb; replace MB := aq_ (mbox_below MB.out hb); replace TA := aq_ (told_belowG TA.out hb); replace HB := aq_ (HB.out.trans (Below.mono hb LB.out)); replace LB := aq_ (Nat.le_trans LB.out (Below.size hb)); have AB := aq_ hbox; clear hga hbox hb)
  | (with_reducible refine load_F (.tmp 5) rfl rfl (p := ⟨ga, 1, none⟩) rfl (boxA_F AB.out) ?_)
  | ((go_at_call 35; (with_reducible refine (sbare_any a.F _ HW.out).mono ?_)); rintro e w2 ⟨he_, hb⟩; rw [HP.out] at he_; subst he_; replace MB := aq_ (mbox_below MB.out hb); replace TA := aq_ (told_belowG TA.out hb); replace AB := aq_ (blk_below AB.out hb); replace HB := aq_ (HB.out.trans (Below.mono hb LB.out)); replace LB := aq_ (Nat.le_trans LB.out (Below.size hb)); have c1 := (cellsA_F AB.out).1; clear hb)
  | (with_reducible refine load_Ac (.tmp 3) rfl rfl (p := ⟨ga, 0, none⟩) rfl (boxA AB.out) ?_)
  | ((go_at_call 65; (with_reducible refine (proved_any M a vU vT vK vD vA w0 _ base g rb MB.out HB.out LB.out TL.out DL.out HW.out HS.out TA.out).mono ?_)); rintro e w3 ⟨vT', vD', rfl, h1, h2, h3⟩; have H1 := aq_ h1; have H2 := aq_ h2; have H3 := aq_ h3; clear h1 h2 h3))
 go_ret
 exact ⟨_, _, by rw [HE.out]; rfl, by rw [HE.out]; exact H1.out, by rw [HE.out]; exact H2.out, H3.out⟩
set_option maxHeartbeats 4000000 in
theorem give_4 (M : Mdl) (a : Ac) (vU vT vK vD vA : Value) (w0 w : World) (base g : Nat) (rb : Nat → Prop) (hm : MBox w base g rb M vU vT vK vD) (hB : Below base w0 w) (hb : base ≤ w.heap.size) (hT : M.T.length < 1000000) (hD : M.D.length < 1000000) (hW : wfF a.F) (hS : ∀ x ∈ M.T, wfS x) (hA : Told k24 w vA a.T.f2) (hp : bareB a.F = true) (hk0 : ¬ a.F.kind = 0) (hk2 : ¬ a.F.kind = 2) (hk4 : ¬ a.F.kind = 4) :
  Calls Tryz.prog 29 #[.pointer (some ⟨g, 0, none⟩), .agg (aca a vA)] w fun e w' => ∃ vT' vD', e = .returned (.int .i64 (giveM M a).2) ∧ w'.heap[g]? = some (.cells (mca (giveM M a).1 vU vT' vK vD') 42 (0, 0)) ∧ MdO w' rb (giveM M a).1 vU vT' vK vD' ∧ Below base w0 w' := by
 have HE := aq_ (show giveM M a = (M, 3) by unfold giveM; rw [if_neg (by rw [hp]; decide), if_neg hk0, if_neg (fun h => h.elim hk2 hk4)])
 have HP := aq_ hp
 clear hp
 have q0 : (a.F.kind == 0) = false := by simpa using hk0
 have q2 : (a.F.kind == 2) = false := by simpa using hk2
 have q4 : (a.F.kind == 4) = false := by simpa using hk4
 clear hk0 hk2 hk4
 have MB := aq_ hm
 have HB := aq_ hB
 have LB := aq_ hb
 have TL := aq_ hT
 have DL := aq_ hD
 have HW := aq_ hW
 have HS := aq_ hS
 have TA := aq_ hA
 clear hm hB hb hT hD hW hS hA
 go_enter Tryz.func29, Tryz.ntmps29
 go_wp2_with (first
  | ((with_reducible refine box_Ac (.tmp 1) (x := a) (v := vA) rfl rfl rfl ?_); intro ga hga w1 hbox hb; replace MB := aq_ (mbox_below MB.out hb); replace TA := aq_ (told_belowG TA.out hb); replace HB := aq_ (HB.out.trans (Below.mono hb LB.out)); replace LB := aq_ (Nat.le_trans LB.out (Below.size hb)); have AB := aq_ hbox; clear hga hbox hb)
  | (with_reducible refine load_F (.tmp 5) rfl rfl (p := ⟨ga, 1, none⟩) rfl (boxA_F AB.out) ?_)
  | ((go_at_call 35; (with_reducible refine (sbare_any a.F _ HW.out).mono ?_)); rintro e w2 ⟨he_, hb⟩; rw [HP.out] at he_; subst he_; replace MB := aq_ (mbox_below MB.out hb); replace TA := aq_ (told_belowG TA.out hb); replace AB := aq_ (blk_below AB.out hb); replace HB := aq_ (HB.out.trans (Below.mono hb LB.out)); replace LB := aq_ (Nat.le_trans LB.out (Below.size hb)); have c1 := (cellsA_F AB.out).1; clear hb))
 go_ret
 exact ⟨_, _, by rw [HE.out]; rfl, by rw [HE.out]; exact MB.out.1, by rw [HE.out]; exact mbox_mdo MB.out, HB.out⟩
theorem give_any (M : Mdl) (a : Ac) (vU vT vK vD vA : Value) (w0 w : World) (base g : Nat) (rb : Nat → Prop) (hm : MBox w base g rb M vU vT vK vD) (hB : Below base w0 w) (hb : base ≤ w.heap.size) (hT : M.T.length < 1000000) (hD : M.D.length < 1000000) (hW : wfF a.F) (hS : ∀ x ∈ M.T, wfS x) (hA : Told k24 w vA a.T.f2) :
  Calls Tryz.prog 29 #[.pointer (some ⟨g, 0, none⟩), .agg (aca a vA)] w fun e w' => ∃ vT' vD', e = .returned (.int .i64 (giveM M a).2) ∧ w'.heap[g]? = some (.cells (mca (giveM M a).1 vU vT' vK vD') 42 (0, 0)) ∧ MdO w' rb (giveM M a).1 vU vT' vK vD' ∧ Below base w0 w' := by
 cases hp : bareB a.F
 ·exact give_0 M a vU vT vK vD vA w0 w base g rb hm hB hb hT hD hW hS hA hp
 by_cases h0 : a.F.kind = 0
 ·exact give_1 M a vU vT vK vD vA w0 w base g rb hm hB hb hT hD hW hS hA hp h0
 by_cases h2 : a.F.kind = 2
 ·exact give_2 M a vU vT vK vD vA w0 w base g rb hm hB hb hT hD hW hS hA hp h2
 by_cases h4 : a.F.kind = 4
 ·exact give_3 M a vU vT vK vD vA w0 w base g rb hm hB hb hT hD hW hS hA hp h4
 ·exact give_4 M a vU vT vK vD vA w0 w base g rb hm hB hb hT hD hW hS hA hp h0 h2 h4
def zmdl : Mdl := ⟨[], 0, [], 0, 0, [], []⟩
def zmca : Array Value := mca zmdl (.slice none 0 0) (.slice none 0 0) (.slice none 0 0) (.slice none 0 0)
theorem infoM : (Tryz.prog.info? 42).map (·.size) = some 7 := by kernel_rfl
theorem run_boxM (w : World) (M : Mdl) (vU vT vK vD : Value) : (Instr.box 42 (.agg (mca M vU vT vK vD))).run Tryz.prog w = .ok (.pointer (some ⟨w.heap.size, 0, none⟩)) (w.alloc (.cells (mca M vU vT vK vD) 42)) := by kernel_rfl
theorem run_allocM (w : World) : (Instr.alloc 42 true (.tuple #[])).run Tryz.prog w = .ok (.pointer (some ⟨w.heap.size, 0, none⟩)) (w.alloc (.cells zmca 42)) := by kernel_rfl
section
variable {ops : Array Oper} {rest : List Oper} {o : Oper} {a : Act} {w : World} {Q : Exit → Act → World → Prop}
theorem box_Mo (x : Operand) {M : Mdl} {vU vT vK vD : Value} (ho : o.op = .box 42 x) (hgd : o.guard = none) (hx : a.eval x = .agg (mca M vU vT vK vD)) (h : ∀ g, g = w.heap.size → ∀ w1 : World, w1.heap[g]? = some (.cells (mca M vU vT vK vD) 42 (0, 0)) → Below w.heap.size w w1 → wpList Tryz.prog ops Q rest (a.put o.dst (.pointer (some ⟨g, 0, none⟩))) w1) : wpList Tryz.prog ops Q (o :: rest) a w := by
 refine Kd.event_run hgd (v := .pointer (some ⟨w.heap.size, 0, none⟩)) ?_ (h _ rfl (w.alloc (.cells (mca M vU vT vK vD) 42)) (blk_new w _) (below_alloc (Below.refl _ _) _))
 unfold execOp
 simp only [ho, hx, Sem.run_bind, run_boxM, Result.andThen_ok, Sem.run_pure]
theorem alloc_Mo (ho : o.op = .alloc 42) (hgd : o.guard = none) (h : ∀ g, g = w.heap.size → ∀ w1 : World, w1.heap[g]? = some (.cells zmca 42 (0, 0)) → Below w.heap.size w w1 → wpList Tryz.prog ops Q rest (a.put o.dst (.pointer (some ⟨g, 0, none⟩))) w1) : wpList Tryz.prog ops Q (o :: rest) a w := by
 refine Kd.event_run hgd (v := .pointer (some ⟨w.heap.size, 0, none⟩)) ?_ (h _ rfl (w.alloc (.cells zmca 42)) (blk_new w _) (below_alloc (Below.refl _ _) _))
 unfold execOp
 simp only [ho, Sem.run_bind, run_allocM, Result.andThen_ok, Sem.run_pure]
theorem run_loadM {g : Nat} {cs : Array Value} (hs : cs.size = 7) (hg : w.heap[g]? = some (.cells cs 42 (0, 0))) : (loadVar 42 ⟨g, 0, none⟩).run Tryz.prog w = .ok (.agg cs) w :=
 run_loadVar_row w g 42 42 cs (0, 0) _ hg Tryz.underlying42 rfl (by rw [infoM, hs])
theorem exec_loadM (y : Operand) (ho : o.op = .load 42 y) {g : Nat} {M : Mdl} {vU vT vK vD : Value} (hy : a.eval y = .pointer (some ⟨g, 0, none⟩)) (hg : w.heap[g]? = some (.cells (mca M vU vT vK vD) 42 (0, 0))) :
  (execOp a.eval o).run Tryz.prog w = .ok (.value (.agg (mca M vU vT vK vD))) w := by
 unfold execOp
 simp only [ho, hy, Instr.loadAt, Instr.sureAddr, Sem.run_bind, Sem.run_pure, Result.andThen_ok, run_loadM rfl hg]
theorem load_Mo (y : Operand) (ho : o.op = .load 42 y) (hgd : o.guard = none) {g : Nat} {M : Mdl} {vU vT vK vD : Value} (hy : a.eval y = .pointer (some ⟨g, 0, none⟩)) (hg : w.heap[g]? = some (.cells (mca M vU vT vK vD) 42 (0, 0)))
  (h : wpList Tryz.prog ops Q rest (a.put o.dst (.agg (mca M vU vT vK vD))) w) : wpList Tryz.prog ops Q (o :: rest) a w := Kd.event_run hgd (exec_loadM y ho hy hg) h
theorem load_Mw (y : Operand) (ho : o.op = .load 42 y) (hw : Region.wanted o (yielded ops a.tmps) = true) {g : Nat} {M : Mdl} {vU vT vK vD : Value} (hy : a.eval y = .pointer (some ⟨g, 0, none⟩)) (hg : w.heap[g]? = some (.cells (mca M vU vT vK vD) 42 (0, 0)))
  (h : wpList Tryz.prog ops Q rest (a.put o.dst (.agg (mca M vU vT vK vD))) w) : wpList Tryz.prog ops Q (o :: rest) a w :=
 gate_guard hw (load_Mo (o := { o with guard := none }) y ho rfl hy hg h)
theorem store_Mo (x y : Operand) (ho : o.op = .store 42 x y) (hgd : o.guard = none) (hN : o.dst = none) {g : Nat} {M : Mdl} {vU vT vK vD : Value} {A1 A2 A3 A4 : Option Addr} {c1 c2 c3 c4 n1 n2 n3 n4 : Nat} {old : Array Value} (hold : old.size = 7) (hx : a.eval x = .pointer (some ⟨g, 0, none⟩)) (hy : a.eval y = .agg (mca M vU vT vK vD))
  (e1 : vU = .slice A1 n1 c1) (e2 : vT = .slice A2 n2 c2) (e3 : vK = .slice A3 n3 c3) (e4 : vD = .slice A4 n4 c4) (hg : w.heap[g]? = some (.cells old 42 (0, 0)))
  (h : ∀ w1 : World, w1.heap[g]? = some (.cells (mca M vU vT vK vD) 42 (0, 0)) → w1.heap.size = w.heap.size → (∀ B w0, B ≤ g → Below B w0 w → Below B w0 w1) → (∀ k, k ≠ g → w1.heap[k]? = w.heap[k]?) → wpList Tryz.prog ops Q rest a w1) : wpList Tryz.prog ops Q (o :: rest) a w := by
 subst e1 e2 e3 e4
 refine wpList_store_row hgd 42 x y ho g (mca M _ _ _ _) hx hy 42 old hg (by rw [infoM]; rfl) (by rw [hold]; rfl) ?_ ?_
 ·simp [mca, Value.oneCell']
 ·rw [hN]
  refine h _ (setRow_heap _ _ _ _ _ _ hg) (size_setRow _ _ _) (fun B w0 hB hb => ?_) (fun k hk => setRow_other _ _ _ _ hk)
  refine ⟨hb.os, hb.tape, hb.output, (by simpa only [size_setRow] using hb.size), fun k hk => ?_⟩
  rw [setRow_other _ _ _ _ (by omega)]
  exact hb.block k hk
end
theorem ret_Mt {tmps : Array Value} {w : World} {fn : Func} {p q : Tmp} (h : fn.results = #[.cell p 42, .tmp q]) {g : Nat} {M : Mdl} {vU vT vK vD u : Value} (hp : tmps.getD p undef = .pointer (some ⟨g, 0, none⟩)) (hq : tmps.getD q undef = u) (hg : w.heap[g]? = some (.cells (mca M vU vT vK vD) 42 (0, 0))) :
  (results fn tmps).run Tryz.prog w = .ok (.tuple #[.agg (mca M vU vT vK vD), u]) w := by
 rw [← hq]
 exact ret_ct h hp hg Tryz.underlying42 rfl (by rw [infoM]; rfl)
theorem mdO_slices {w : World} {r : Nat → Prop} {M : Mdl} {vU vT vK vD : Value} (h : MdO w r M vU vT vK vD) : (∃ A c, vU = .slice A M.U.length c) ∧ (∃ A c, vT = .slice A M.T.length c) ∧ (∃ A c, vK = .slice A M.K.length c) ∧ (∃ A c, vD = .slice A M.D.length c) := by
 obtain ⟨⟨A, c, e, _⟩, ⟨A1, c1, e1, _⟩, ⟨A2, c2, e2, _⟩, ⟨A3, c3, e3, _⟩⟩ := mdO_told h
 exact ⟨⟨A, c, e⟩, ⟨A1, c1, e1⟩, ⟨A2, c2, e2⟩, ⟨A3, c3, e3⟩⟩
theorem mdO_add {w w' : World} {rq : Nat → Prop} {gr : Nat} {M : Mdl} {vU vT vK vD : Value} (h : MdO w rq M vU vT vK vD) (hb : Below w.heap.size w w') (hg : w.heap.size ≤ gr) : MdO w' (fun k => rq k ∨ k = gr) M vU vT vK vD := by
 obtain ⟨h1, h2, h3, h4⟩ := h
 refine ⟨Kd.V_mono (Kd.V_below (Kd.V_bound h1) hb) ?_, Kd.V_mono (Kd.V_below (Kd.V_bound h2) hb) ?_, Kd.V_mono (Kd.V_below (Kd.V_bound h3) hb) ?_, Kd.V_mono (Kd.V_below (Kd.V_bound h4) hb) ?_⟩ <;> exact fun k hk e => e.elim hk.1 (fun e => by have := hk.2; omega)
theorem mdO_sub {w w' : World} {rq : Nat → Prop} {gr : Nat} {M : Mdl} {vU vT vK vD : Value} (h : MdO w (fun k => rq k ∨ k = gr) M vU vT vK vD) (hf : ∀ k, k ≠ gr → w'.heap[k]? = w.heap[k]?) : MdO w' rq M vU vT vK vD := by
 obtain ⟨h1, h2, h3, h4⟩ := h
 refine ⟨Kd.V_mono (Kd.V_step h1 fun k hk _ => hf k fun e => hk (.inr e)) ?_, Kd.V_mono (Kd.V_step h2 fun k hk _ => hf k fun e => hk (.inr e)) ?_, Kd.V_mono (Kd.V_step h3 fun k hk _ => hf k fun e => hk (.inr e)) ?_, Kd.V_mono (Kd.V_step h4 fun k hk _ => hf k fun e => hk (.inr e)) ?_⟩ <;> exact fun k hk e => hk (.inl e)
theorem mdC_slices {w : World} {M : Mdl} {vU vT vK vD : Value} (h : MdC w M vU vT vK vD) : (∃ A c, vU = .slice A M.U.length c) ∧ (∃ A c, vT = .slice A M.T.length c) ∧ (∃ A c, vK = .slice A M.K.length c) ∧ (∃ A c, vD = .slice A M.D.length c) := by
 obtain ⟨⟨A, c, e, _⟩, ⟨A1, c1, e1, _⟩, ⟨A2, c2, e2, _⟩, ⟨A3, c3, e3, _⟩⟩ := h
 exact ⟨⟨A, c, e⟩, ⟨A1, c1, e1⟩, ⟨A2, c2, e2⟩, ⟨A3, c3, e3⟩⟩
theorem mbox_setN {w : World} {base g : Nat} {rb : Nat → Prop} {M M' : Mdl} {vU vT vK vD : Value} (h : MBox w base g rb M vU vT vK vD) (i : Nat) (v : Value) (hc : (mca M vU vT vK vD).setIfInBounds i v = mca M' vU vT vK vD) (eU : M'.U = M.U) (eT : M'.T = M.T) (eK : M'.K = M.K) (eD : M'.D = M.D) : MBox (w.setCell ⟨g, i, none⟩ v) base g rb M' vU vT vK vD := by
 obtain ⟨h0, h00, PU, PT, PK, PD, h1, h2, h3, h4, h5, h6, n1, n2, n3, n4, nr⟩ := h
 have far : ∀ k, k ≠ g → (w.setCell ⟨g, i, none⟩ v).heap[k]? = w.heap[k]? := fun k hk => Below.heap_setCell _ _ _ _ hk
 refine ⟨blk_put h0 i v hc, h00, PU, PT, PK, PD, ?_, ?_, ?_, ?_, h5, h6, n1, n2, n3, n4, nr⟩
 ·rw [eU]; exact Kd.V_step h1 (fun k hk _ => far k fun e => n1 (e ▸ hk))
 ·rw [eT]; exact Kd.V_step h2 (fun k hk _ => far k fun e => n2 (e ▸ hk))
 ·rw [eK]; exact Kd.N_step h3 (fun k hk _ => far k fun e => n3 (e ▸ hk))
 ·rw [eD]; exact Kd.R_step h4 (fun k hk _ => far k fun e => n4 (e ▸ hk))
def stepM (M : Mdl) (a : Ac) : Mdl × Int :=
 if mayM M = false then (M, 1) else if a.kind = 0 then emitM M a else if a.kind = 1 then giveM M a
 else if a.kind = 2 then ({ M with now := if 1073741824 < M.now + 1 then 1073741824 else M.now + 1 }, 0)
 else if a.kind = 3 then (if M.epoch = 1073741824 then (M, 12) else ({ M with epoch := M.epoch + 1, now := 0, T := [] }, 0)) else (M, 1)
theorem mayM_now {M : Mdl} (h : mayM M = true) : (0 ≤ M.epoch ∧ M.epoch ≤ 1073741824) ∧ 0 ≤ M.now ∧ M.now ≤ 1073741824 := by
 simp only [mayM, Bool.and_eq_true, inB, decide_eq_true_eq] at h
 omega
set_option maxHeartbeats 4000000 in
theorem key16_any (n : Int) (w : World) : Calls Tryz.prog 20 #[.int .u8 n] w fun e w' => ∃ v, e = .returned v ∧ Kd.R (Kd.int .u8) 5 w' w.heap.size (fun _ => True) v (List.replicate 16 n) ∧ Below w.heap.size w w' := by
 go_enter Tryz.func20, Tryz.ntmps20
 go_wp2
 go_loopw [3, 4] (fun v3 v4 wr => ∃ i : Nat, i ≤ 16 ∧ v4 = .int .i64 i ∧ Aside0 (Kd.R (Kd.int .u8) 5 wr w.heap.size (fun _ => True) v3 (List.replicate i n)) ∧ Aside0 (Below w.heap.size w wr)) (fun v3 v4 _ => 16 - (intOf v4).toNat)
 case atStart => exact ⟨0, by omega, rfl, ⟨Kd.R_nil _ _ _ _ _⟩, ⟨Below.refl _ _⟩⟩
 case round =>
  obtain ⟨i, hi, rfl, HR, HB⟩ := hrel
  by_cases hlt : i < 16
  ·have hd : decide ((i : Int) < 16) = true := by simp; omega
   go_wp2_with ((with_reducible refine gate_builtin (b := .append) (xs := #[.tmp 9, .tmp 11]) rfl ?_); at_builtin; go_loud (refine Kd.R_append (Kd.int .u8) (w0 := w) w.heap.size rfl (.tmp 9) (.tmp 11) 64 5 (.int .u8 0) 1 rfl Tryz.underlying64 info5 rfl (by decide) (by decide) u3 (List.replicate i n) n [.int .u8 n] (fun _ => True) (fun _ => False) rfl rfl rfl (fun _ h => h.elim) (fun _ _ => trivial) HR.out HB.out HB.out.size ?_ ?_); (· simp; omega); intro v1 w3 ho hb hg hat; have HR1 := aq_ ho; have HB1 := aq_ hb; clear ho hb hg hat)
   go_roundw
   case rel => exact ⟨i + 1, by omega, by simp, ⟨by rw [List.replicate_succ']; exact HR1.out⟩, HB1⟩
   case measure => simp [intOf]; omega
  ·obtain rfl : i = 16 := by omega
   have hd : decide (((16 : Nat) : Int) < 16) = false := by simp
   go_wp2
   go_ret
   exact ⟨_, rfl, HR.out, HB.out⟩
def startM (U : List Usr) (idle : Int) : Mdl := ⟨U, idle, [], 1, 0, [], []⟩
set_option maxHeartbeats 4000000 in
theorem start_nil (U : List Usr) (AU : Option Addr) (cU : Nat) (idle : Int) (w : World) : Calls Tryz.prog 10 #[.slice AU U.length cU, .slice none 0 0, .int .i64 idle] w fun e w' => e = .returned (.agg (mca (startM U idle) (.slice AU U.length cU) (.slice none 0 0) (.slice none 0 0) (.slice none 0 0))) ∧ Below w.heap.size w w' := by
 go_enter Tryz.func10, Tryz.ntmps10
 go_upto_region 1 with ((with_reducible refine alloc_Mo rfl rfl ?_); intro gr hgr w1 hbox hb; have G1 := aq_ (show w.heap.size ≤ gr by omega); have XR := aq_ hbox; have HB1 := aq_ hb; clear hgr hbox hb)
 go_upto_region 2 with (first
  | ((with_reducible refine alloc_Mo rfl rfl ?_); intro gm hgm w2 hbox hb; have G2 := aq_ (show w.heap.size ≤ gm by have := HB1.out.size; omega); have NE := aq_ (show gr ≠ gm by have := blk_lt XR.out; omega); have X2 := aq_ hbox; have XR2 := aq_ (blk_below XR.out hb); have HB2 := aq_ (HB1.out.trans (hb.mono HB1.out.size)); clear hgm hbox hb HB1 XR)
  | ((with_reducible refine gate_store2 42 (.tmp 7) (.tmp 11) rfl ?_); (refine store_Mo (.tmp 7) (.tmp 11) (M := startM U idle) (vU := .slice AU U.length cU) (vT := .slice none 0 0) (vK := .slice none 0 0) (vD := .slice none 0 0) rfl rfl rfl (by rfl) rfl rfl rfl rfl rfl rfl X2.out ?_); intro w3 hx1 hs1 hb1 hf1; have X3 := aq_ hx1; have HB3 := aq_ (hb1 _ _ G2.out HB2.out); have XR3 := aq_ ((hf1 _ NE.out).trans XR2.out); clear hx1 hs1 hb1 hf1 X2 HB2 XR2))
 go_wp2
 go_loopw [8] (fun v8 wr => v8 = .int .i64 0 ∧ Aside0 (wr.heap[gm]? = some (.cells (mca (startM U idle) (.slice AU U.length cU) (.slice none 0 0) (.slice none 0 0) (.slice none 0 0)) 42 (0, 0))) ∧ Aside0 (wr.heap[gr]? = some (.cells zmca 42 (0, 0))) ∧ Aside0 (Below w.heap.size w wr)) (fun v8 _ => 0)
 case atStart => exact ⟨rfl, X3, XR3, HB3⟩
 case round =>
  clear X3 XR3 HB3
  obtain ⟨rfl, X3, XR3, HB3⟩ := hrel
  go_wp2_with (first
   | (with_reducible refine load_Mo (.tmp 7) rfl rfl rfl X3.out ?_)
   | ((with_reducible refine store_Mo (.tmp 6) (.tmp 28) rfl rfl rfl rfl rfl rfl rfl rfl rfl rfl XR3.out ?_); intro wF hx1 hs1 hb1 hf1; have XF := aq_ hx1; have HF := aq_ (hb1 _ _ G1.out HB3.out); clear hx1 hs1 hb1 hf1))
  refine bodyPost_ret (ret_7 rfl (g := gr) rfl XF.out) rfl ?_
  exact ⟨rfl, HF.out⟩
end Go.Proofs.YtdinphnljokigaaGreat.P
end
