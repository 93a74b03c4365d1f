/- The row of SymAgree: written by a program of the session (genrow.py). -/
import Derived.Test.YtdinphnljokigaaGreatRows
import Derived.Test.YtdinphnljokigaaGreatS40
import Derived.WalkKit
import Derived.ProofKit
import Derived.OpenShut
import Derived.ShutString
import Derived.ChangeOld
import Derived.Below
import Derived.SizedLaws
import Derived.Carry
import Derived.WideShapes
namespace Go.Proofs.YtdinphnljokigaaGreat.symAgree
open Go.ChangeShapes Go.WideShapes Go.ChangeAt Go.RowKit Go.Proofs.YtdinphnljokigaaGreat.P Go.Proofs.YtdinphnljokigaaGreatW.PrintWords
open Go.ChangeMaps (open_string shut_string)
set_option linter.unusedVariables false
theorem own : ownKnob Tryz.prog.godebug = none := by kernel_rfl
theorem laidOut : laidOutB Tryz.prog = true := by kernel_rfl
set_option maxHeartbeats 4000000 in
set_option maxRecDepth 100000 in
theorem lifted (os : Os) (started : os.Started) (H : Type) (enc : TypeId × Value → H) :
    ReturnsInHanded {} Tryz.checked os 4 .any (Rows.symAgreeSpec.pre6 enc Tryz.prog Tryz.f4 Rows.symAgreeRow.domain false) (Rows.symAgreeSpec.post enc Tryz.prog Tryz.f4 false true false false) := by
  refine returnsInHanded_of_change_sized (C := Tryz.checked) own started (by kernel_rfl) Tryz.func4
    (ChangeSpec.witness6 (enc := enc) (C := Tryz.checked) false ⟨#[], #[.slice none 0 0, .slice none 0 0, .int .i64 0, .slice none 0 0], []⟩ 8 (by kernel_rfl) (by kernel_rfl) (by kernel_rfl) (by kernel_rfl)) ?_
  intro W base args ds gs before hval0 hW hcnd hsz0 _
  have hval : ∀ (j : Nat) t v, Tryz.f4.params[j]? = some t → args[j]? = some v → Value.okWide Tryz.prog W .any base t v := hval0
  have hW' := hW
  obtain ⟨p, q, hA0, hV, rfl, hfz, hnd⟩ := hW
  have hA : DataW.TrodAll enc Tryz.prog W 0 (fun _ => true) true Tryz.f4.params.toList args.toList ds p := hA0
  rw [Tryz.params4] at hA hval
  obtain ⟨v0, vs0, d0, ds0, p0, q0, hargs, rfl, rfl, h0, r0⟩ := trodAll_cons hA
  obtain ⟨v1, vs1, d1, ds1, p1, q1, rfl, rfl, rfl, h1, r1⟩ := trodAll_cons r0
  obtain ⟨v2, vs2, d2, ds2, p2, q2, rfl, rfl, rfl, h2, r2⟩ := trodAll_cons r1
  obtain ⟨v3, vs3, d3, ds3, p3, q3, rfl, rfl, rfl, h3, r3⟩ := trodAll_cons r2
  obtain ⟨rfl, rfl, rfl⟩ := trodAll_nil r3
  obtain rfl : args = #[v0, v1, v2, v3] := by cases args; simp_all
  obtain ⟨rfl, rfl⟩ := trodVars_none hV
  have k0 := h0
  have lt0 : ∀ x ∈ p0, x.block < W.heap.size := by obtain ⟨m, hm⟩ := k0; exact DataW.trod_lt m _ _ _ hm
  obtain ⟨A0, len0, cap0, rfl⟩ := okWide_slice Tryz.underlying22 (hval 0 22 v0 rfl rfl)
  obtain ⟨x0, K0, g0⟩ := opens_arg (opens_slice' Tryz.underlying22 (by kernel_rfl) openU) h0
  obtain ⟨A0_, c0_, e0, hc0, hr0⟩ := K0
  have e0_ : (.slice A0 len0 cap0 : Value) = .slice A0_ x0.length c0_ := by simpa [Value.cells] using e0
  injection e0_ with ea0 el0 ec0
  subst ea0 el0 ec0
  have k1 := h1
  have lt1 : ∀ x ∈ p1, x.block < W.heap.size := by obtain ⟨m, hm⟩ := k1; exact DataW.trod_lt m _ _ _ hm
  obtain ⟨A1, len1, cap1, rfl⟩ := okWide_slice Tryz.underlying50 (hval 1 50 v1 rfl rfl)
  obtain ⟨x1, K1, g1⟩ := opens_arg (opens_slice' Tryz.underlying50 (by kernel_rfl) openI) h1
  obtain ⟨A1_, c1_, e1, hc1, hr1⟩ := K1
  have e1_ : (.slice A1 len1 cap1 : Value) = .slice A1_ x1.length c1_ := by simpa [Value.cells] using e1
  injection e1_ with ea1 el1 ec1
  subst ea1 el1 ec1
  obtain ⟨x2, rfl, rfl, rfl, g2⟩ := open_int Tryz.underlying3 (hval 2 3 v2 rfl rfl) h2
  have k3 := h3
  have lt3 : ∀ x ∈ p3, x.block < W.heap.size := by obtain ⟨m, hm⟩ := k3; exact DataW.trod_lt m _ _ _ hm
  obtain ⟨A3, len3, cap3, rfl⟩ := okWide_slice Tryz.underlying23 (hval 3 23 v3 rfl rfl)
  obtain ⟨x3, K3, g3⟩ := opens_arg (opens_slice' Tryz.underlying23 (by kernel_rfl) openA) h3
  obtain ⟨A3_, c3_, e3, hc3, hr3⟩ := K3
  have e3_ : (.slice A3 len3 cap3 : Value) = .slice A3_ x3.length c3_ := by simpa [Value.cells] using e3
  injection e3_ with ea3 el3 ec3
  subst ea3 el3 ec3
  clear hA0 hval0 hsz0
  refine (symAgree_any x0 _ _ x1 _ _ x2 x3 _ _ W hr0 hc0 g0 hr1 hc1 g1 g2 hr3 hc3 g3).mono ?_
  rintro e W' ⟨rfl, bel⟩
  exact ⟨_, rfl, _, _, _, [], _, [], hW', trodAll_mk1 (shut_bool Tryz.underlying4 _), (trodAll_cons_mk (Below.trod laidOut (by kernel_rfl) (of_decide_eq_true (by kernel_rfl)) k0 bel lt0) (trodAll_cons_mk (Below.trod laidOut (by kernel_rfl) (of_decide_eq_true (by kernel_rfl)) k1 bel lt1) (trodAll_cons_mk (shut_int Tryz.underlying3 g2) (trodAll_cons_mk (Below.trod laidOut (by kernel_rfl) (of_decide_eq_true (by kernel_rfl)) k3 bel lt3) trodAll_mk0)))), rfl, bel.frame _, fun h => by cases h⟩
theorem over : Rows.symAgreeRow.holds Tryz.pinned (OpenSpec.ofChange Rows.symAgreeSpec) :=
  OpenClaim.holds_of_wide 4 Tryz.f4 rfl rfl rfl rfl rfl rfl rfl ⟨rfl, rfl, rfl, rfl, rfl⟩ rfl rfl rfl rfl rfl (by kernel_rfl) Tryz.func4 (by kernel_rfl)
    (of_decide_eq_true (by kernel_rfl)) (by unfold Func.isWrapper; first | (rw [if_pos (by decide +kernel)]; kernel_rfl) | (rw [if_neg (by decide +kernel)]; exact ⟨rfl, rfl⟩))
    (fun os started H enc _ => lifted os started H enc)
theorem proved : Rows.SymAgreeSaid := over
#print axioms proved
end Go.Proofs.YtdinphnljokigaaGreat.symAgree
namespace Go.Proofs.YtdinphnljokigaaGreat
/-- The row, under a short name, for the claim. -/
theorem symAgree_holds : Rows.SymAgreeSaid := symAgree.proved
end Go.Proofs.YtdinphnljokigaaGreat
