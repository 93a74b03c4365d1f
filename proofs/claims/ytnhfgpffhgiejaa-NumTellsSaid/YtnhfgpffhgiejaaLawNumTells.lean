/- The row of NumTells out of its plain statement: written by a program of the session. -/
import Derived.Test.YtnhfgpffhgiejaaRows
import Derived.Test.YtnhfgpffhgiejaaPx4
import Derived.Test.YtnhfgpffhgiejaaPureNumTells
import Derived.WalkKit
import Derived.ProofKit
import Derived.OpenShut
import Derived.ShutString
import Derived.ChangeOld
import Derived.Below
import Derived.SizedLaws
import Derived.Carry
import Derived.WideShapes
namespace Go.Proofs.Ytnhfgpffhgiejaa.numTells
open Go.ChangeShapes Go.WideShapes Go.ChangeAt Go.RowKit Go.Proofs.Ytnhfgpffhgiejaa.P Go.Proofs.YtnhfgpffhgiejaaW.PrintWords
open Go.ChangeMaps (open_string shut_string)
set_option linter.unusedVariables false
theorem own : ownKnob Try.prog.godebug = none := by kernel_rfl
theorem laidOut : laidOutB Try.prog = true := by kernel_rfl
set_option maxHeartbeats 1000000 in
set_option maxRecDepth 100000 in
theorem lifted (os : Os) (started : os.Started) (H : Type) (enc : TypeId × Value → H) :
    ReturnsInHanded {} Try.checked os 6 .any (Rows.numTellsSpec.pre6 enc Try.prog Try.f6 Rows.numTellsRow.domain false) (Rows.numTellsSpec.post enc Try.prog Try.f6 false true false false) := by
  refine returnsInHanded_of_change_sized (C := Try.checked) own started (by kernel_rfl) Try.func6
    (ChangeSpec.witness6 (enc := enc) (C := Try.checked) false ⟨#[], #[.int .u64 0, .int .i64 0, .slice none 0 0, .int .i64 0, .slice none 0 0, .slice none 0 0], []⟩ 8 (by kernel_rfl) (by kernel_rfl) (by kernel_rfl) (by kernel_rfl)) ?_
  intro W base args ds gs before hval0 hW hcnd hsz0 _
  have hval : ∀ (j : Nat) t v, Try.f6.params[j]? = some t → args[j]? = some v → Value.okWide Try.prog W .any base t v := hval0
  have hW' := hW
  obtain ⟨p, q, hA0, hV, rfl, hfz, hnd⟩ := hW
  have hA : DataW.TrodAll enc Try.prog W 0 (fun _ => true) true Try.f6.params.toList args.toList ds p := hA0
  rw [Try.params6] at hA hval
  obtain ⟨v0, vs0, d0, ds0, p0, q0, hargs, rfl, rfl, h0, r0⟩ := trodAll_cons hA
  obtain ⟨v1, vs1, d1, ds1, p1, q1, rfl, rfl, rfl, h1, r1⟩ := trodAll_cons r0
  obtain ⟨v2, vs2, d2, ds2, p2, q2, rfl, rfl, rfl, h2, r2⟩ := trodAll_cons r1
  obtain ⟨v3, vs3, d3, ds3, p3, q3, rfl, rfl, rfl, h3, r3⟩ := trodAll_cons r2
  obtain ⟨v4, vs4, d4, ds4, p4, q4, rfl, rfl, rfl, h4, r4⟩ := trodAll_cons r3
  obtain ⟨v5, vs5, d5, ds5, p5, q5, rfl, rfl, rfl, h5, r5⟩ := trodAll_cons r4
  obtain ⟨rfl, rfl, rfl⟩ := trodAll_nil r5
  obtain rfl : args = #[v0, v1, v2, v3, v4, v5] := by cases args; simp_all
  obtain ⟨rfl, rfl⟩ := trodVars_none hV
  obtain ⟨x0, rfl, rfl, rfl, g0⟩ := open_int Try.underlying22 (hval 0 22 v0 rfl rfl) h0
  obtain ⟨x1, rfl, rfl, rfl, g1⟩ := open_int Try.underlying3 (hval 1 3 v1 rfl rfl) h1
  have k2 := h2
  have lt2 : ∀ x ∈ p2, x.block < W.heap.size := by obtain ⟨m, hm⟩ := k2; exact DataW.trod_lt m _ _ _ hm
  obtain ⟨A2, len2, cap2, rfl⟩ := okWide_slice Try.underlying23 (hval 2 23 v2 rfl rfl)
  obtain ⟨x2, K2, g2⟩ := opens_arg (opens_slice' Try.underlying23 (by kernel_rfl) (opens_int (k := .u8) Try.underlying5)) h2
  obtain ⟨A2_, c2_, e2, hc2, hr2⟩ := K2
  have e2_ : (.slice A2 len2 cap2 : Value) = .slice A2_ x2.length c2_ := by simpa [Value.cells] using e2
  injection e2_ with ea2 el2 ec2
  subst ea2 el2 ec2
  obtain ⟨x3, rfl, rfl, rfl, g3⟩ := open_int Try.underlying3 (hval 3 3 v3 rfl rfl) h3
  have k4 := h4
  have lt4 : ∀ x ∈ p4, x.block < W.heap.size := by obtain ⟨m, hm⟩ := k4; exact DataW.trod_lt m _ _ _ hm
  obtain ⟨A4, len4, cap4, rfl⟩ := okWide_slice Try.underlying32 (hval 4 32 v4 rfl rfl)
  obtain ⟨x4, K4, g4⟩ := opens_arg (opens_slice' Try.underlying32 (by kernel_rfl) open41) h4
  obtain ⟨A4_, c4_, e4, hc4, hr4⟩ := K4
  have e4_ : (.slice A4 len4 cap4 : Value) = .slice A4_ x4.length c4_ := by simpa [Value.cells] using e4
  injection e4_ with ea4 el4 ec4
  subst ea4 el4 ec4
  have k5 := h5
  have lt5 : ∀ x ∈ p5, x.block < W.heap.size := by obtain ⟨m, hm⟩ := k5; exact DataW.trod_lt m _ _ _ hm
  obtain ⟨A5, len5, cap5, rfl⟩ := okWide_slice Try.underlying33 (hval 5 33 v5 rfl rfl)
  obtain ⟨x5, K5, g5⟩ := opens_arg (opens_slice' Try.underlying33 (by kernel_rfl) (opens_int (k := .i64) Try.underlying3)) h5
  obtain ⟨A5_, c5_, e5, hc5, hr5⟩ := K5
  have e5_ : (.slice A5 len5 cap5 : Value) = .slice A5_ x5.length c5_ := by simpa [Value.cells] using e5
  injection e5_ with ea5 el5 ec5
  subst ea5 el5 ec5
  clear hA0 hval0 hsz0
  obtain ⟨k, hk⟩ := Pure.NumTells x0 x1 x2 x3 x4 x5 g0 g1 g2 g3 g4 g5
  refine (pelicanlaw03_NumTells.calls k x0 x1 _ _ x2 x3 _ _ x4 _ _ x5 true W hr2 hc2 hr4 hc4 hr5 hc5 hk).mono ?_
  rintro e W' ⟨rfl, bel0⟩
  have bel : Below W.heap.size W W' := bel0
  exact ⟨_, rfl, _, _, _, [], _, [], hW', trodAll_mk1 (shut_bool Try.underlying4 _), (trodAll_cons_mk (shut_int Try.underlying22 g0) (trodAll_cons_mk (shut_int Try.underlying3 g1) (trodAll_cons_mk (Below.trod laidOut (by kernel_rfl) (of_decide_eq_true (by kernel_rfl)) k2 bel lt2) (trodAll_cons_mk (shut_int Try.underlying3 g3) (trodAll_cons_mk (Below.trod laidOut (by kernel_rfl) (of_decide_eq_true (by kernel_rfl)) k4 bel lt4) (trodAll_cons_mk (Below.trod laidOut (by kernel_rfl) (of_decide_eq_true (by kernel_rfl)) k5 bel lt5) trodAll_mk0)))))), rfl, bel.frame _, fun h => by cases h⟩
theorem over : Rows.numTellsRow.holds Try.pinned (OpenSpec.ofChange Rows.numTellsSpec) :=
  OpenClaim.holds_of_wide 6 Try.f6 rfl rfl rfl rfl rfl rfl rfl ⟨rfl, rfl, rfl, rfl, rfl⟩ rfl rfl rfl rfl rfl (by kernel_rfl) Try.func6 (by kernel_rfl)
    (of_decide_eq_true (by kernel_rfl)) (by unfold Func.isWrapper; first | (rw [if_pos (by decide +kernel)]; kernel_rfl) | (rw [if_neg (by decide +kernel)]; exact ⟨rfl, rfl⟩))
    (fun os started H enc _ => lifted os started H enc)
theorem proved : Rows.NumTellsSaid := over
#print axioms proved
end Go.Proofs.Ytnhfgpffhgiejaa.numTells
namespace Go.Proofs.Ytnhfgpffhgiejaa
/-- The row, under a short name, for the claim. -/
theorem numTells_holds : Rows.NumTellsSaid := numTells.proved
end Go.Proofs.Ytnhfgpffhgiejaa
