/- What LawSymAgree rests on, part 40: several texts put together. -/
import Derived.Test.YtdinphnljokigaaGreatS36
import Derived.Test.YtdinphnljokigaaGreatS39
import Derived.Test.YtdinphnljokigaaGreatS3
set_option linter.unusedVariables false
set_option linter.unnecessarySimpa false
set_option linter.unusedSimpArgs false
set_option maxRecDepth 100000
section
namespace Go.Proofs.YtdinphnljokigaaGreat.P
open Go.RowKit Go.Lib Go.Proofs.YtdinphnljokigaaGreatW.PrintWords Go.Proofs.YtdinphnljokigaaGreatW.PrintLast Go.Proofs.YtdinphnljokigaaGreatW.PrintMore
theorem openT : Opens Tryz.prog 36 k24 (fun _ => True) := by
 intro n
 induction n using Nat.strongRecOn with | _ n ih =>
 intro H enc w base spare held cs x h
 obtain ⟨xs, m, rfl, rfl, hl, hxl, hf⟩ := DataW.trod_struct Tryz.underlying36 h
 obtain ⟨a0, K0, g0⟩ := opens_field hxl hf (i := 0) rfl ((opens_int (k := .i64) Tryz.underlying3) m)
 obtain ⟨a1, K1, g1⟩ := opens_field hxl hf (i := 1) rfl ((opens_int (k := .i64) Tryz.underlying3) m)
 have hs : OpensAt Tryz.prog m 34 (Kd.slice 36 k24) (fun l => l.length ≤ maxLen ∧ ∀ x ∈ l, True) := by
  cases m with
  | zero => intro H enc w base spare held cs x h; simp [DataW.trod] at h
  | succ m => exact opens_slice m Tryz.underlying34 (by kernel_rfl) (ih m (by omega))
 obtain ⟨a2, K2, g2⟩ := opens_field hxl hf (i := 2) rfl hs
 have e24_ : Tryz.prog.cellsOf 36 = 3 := by kernel_rfl
 rw [e24_] at hl
 have e3 : Tryz.prog.cellsOf 3 = 1 := by kernel_rfl
 have e22 : Tryz.prog.cellsOf 34 = 1 := by kernel_rfl
 have J0 : ((Kd.int .i64)).K w a0 ((cs.drop 0).take 1) := by have q : ((Kd.int .i64)).K w a0 ((cs.drop 0).take (Tryz.prog.cellsOf 3)) := K0; rw [e3] at q; exact q
 have J1 : ((Kd.int .i64)).K w a1 ((cs.drop 1).take 1) := by have q : ((Kd.int .i64)).K w a1 ((cs.drop 1).take (Tryz.prog.cellsOf 3)) := K1; rw [e3] at q; exact q
 have J2 : ((Kd.slice 36 k24)).K w a2 ((cs.drop 2).take 1) := by have q : ((Kd.slice 36 k24)).K w a2 ((cs.drop 2).take (Tryz.prog.cellsOf 34)) := K2; rw [e22] at q; exact q
 obtain ⟨A_, c_, q2, l_, C_⟩ := J2
 have q0 : (cs.drop 0).take 1 = [.int .i64 a0] := J0
 have q1 : (cs.drop 1).take 1 = [.int .i64 a1] := J1
 have e : cs = [.int .i64 a0, .int .i64 a1, .slice A_ a2.length c_] := by
  obtain ⟨y0, y1, y2, rfl⟩ : ∃ y0 y1 y2 : Value, cs = [y0, y1, y2] := by
   match cs, hl with
   | [y0, y1, y2], _ => exact ⟨_, _, _, rfl⟩
  simp at q0 q1 q2
  subst q0 q1 q2
  rfl
 subst e
 exact ⟨⟨a0, a1, a2⟩, k24_mk w ⟨a0, a1, a2⟩ l_ C_, trivial⟩
theorem openU : Opens Tryz.prog 67 kU (fun _ => True) := by
 intro n H enc w base spare held cs x h
 obtain ⟨xs, m, rfl, rfl, hl, hxl, hf⟩ := DataW.trod_struct Tryz.underlying67 h
 obtain ⟨a0, K0, g0⟩ := opens_field hxl hf (i := 0) rfl ((opens_int (k := .i64) Tryz.underlying3) m)
 obtain ⟨a1, K1, g1⟩ := opens_field hxl hf (i := 1) rfl ((opens_int (k := .i64) Tryz.underlying3) m)
 obtain ⟨a2, K2, g2⟩ := opens_field hxl hf (i := 2) rfl ((opens_slice' Tryz.underlying64 (by kernel_rfl) (opens_int (k := .u8) Tryz.underlying5)) m)
 have e24_ : Tryz.prog.cellsOf 67 = 3 := by kernel_rfl
 rw [e24_] at hl
 have e3 : Tryz.prog.cellsOf 3 = 1 := by kernel_rfl
 have e22 : Tryz.prog.cellsOf 64 = 1 := by kernel_rfl
 have J0 : ((Kd.int .i64)).K w a0 ((cs.drop 0).take 1) := by have q : ((Kd.int .i64)).K w a0 ((cs.drop 0).take (Tryz.prog.cellsOf 3)) := K0; rw [e3] at q; exact q
 have J1 : ((Kd.int .i64)).K w a1 ((cs.drop 1).take 1) := by have q : ((Kd.int .i64)).K w a1 ((cs.drop 1).take (Tryz.prog.cellsOf 3)) := K1; rw [e3] at q; exact q
 have J2 : ((Kd.slice 5 (Kd.int .u8))).K w a2 ((cs.drop 2).take 1) := by have q : ((Kd.slice 5 (Kd.int .u8))).K w a2 ((cs.drop 2).take (Tryz.prog.cellsOf 64)) := K2; rw [e22] at q; exact q
 obtain ⟨A_, c_, q2, l_, C_⟩ := J2
 have q0 : (cs.drop 0).take 1 = [.int .i64 a0] := J0
 have q1 : (cs.drop 1).take 1 = [.int .i64 a1] := J1
 have e : cs = [.int .i64 a0, .int .i64 a1, .slice A_ a2.length c_] := by
  obtain ⟨y0, y1, y2, rfl⟩ : ∃ y0 y1 y2 : Value, cs = [y0, y1, y2] := by
   match cs, hl with
   | [y0, y1, y2], _ => exact ⟨_, _, _, rfl⟩
  simp at q0 q1 q2
  subst q0 q1 q2
  rfl
 subst e
 exact ⟨⟨a0, a1, a2⟩, kU_mk w ⟨a0, a1, a2⟩ l_ C_, trivial⟩
def GA (a : Ac) : Prop := GS a.X ∧ GF a.F
theorem openA : Opens Tryz.prog 38 kA GA := by
 intro n H enc w base spare held cs x h
 obtain ⟨xs, m, rfl, rfl, hl, hxl, hf⟩ := DataW.trod_struct Tryz.underlying38 h
 obtain ⟨a0, K0, g0⟩ := opens_field hxl hf (i := 0) rfl ((opens_int (k := .i64) Tryz.underlying3) m)
 obtain ⟨a1, K1, g1⟩ := opens_field hxl hf (i := 1) rfl (openF m)
 obtain ⟨a2, K2, g2⟩ := opens_field hxl hf (i := 2) rfl (openS m)
 obtain ⟨a3, K3, g3⟩ := opens_field hxl hf (i := 3) rfl (openT m)
 have e0 : Tryz.prog.cellsOf 38 = 83 := by kernel_rfl
 have e1 : Tryz.prog.cellsOf 3 = 1 := by kernel_rfl
 have e2 : Tryz.prog.cellsOf 31 = 40 := by kernel_rfl
 have e3 : Tryz.prog.cellsOf 33 = 39 := by kernel_rfl
 have e4 : Tryz.prog.cellsOf 36 = 3 := by kernel_rfl
 rw [e0] at hl
 have J0 : (Kd.int .i64).K w a0 ((cs.drop 0).take 1) := by have q : (Kd.int .i64).K w a0 ((cs.drop 0).take (Tryz.prog.cellsOf 3)) := K0; rw [e1] at q; exact q
 have J1 : kF.K w a1 ((cs.drop 1).take 40) := by have q : kF.K w a1 ((cs.drop 1).take (Tryz.prog.cellsOf 31)) := K1; rw [e2] at q; exact q
 have J2 : kS.K w a2 ((cs.drop 41).take 39) := by have q : kS.K w a2 ((cs.drop 41).take (Tryz.prog.cellsOf 33)) := K2; rw [e3] at q; exact q
 have J3 : k24.K w a3 ((cs.drop 80).take 3) := by have q : k24.K w a3 ((cs.drop 80).take (Tryz.prog.cellsOf 36)) := K3; rw [e4] at q; exact q
 rw [List.take_of_length_le (by rw [List.length_drop]; omega)] at J3
 refine ⟨⟨a0, a1, a2, a3⟩, ?_, g2, g1⟩
 show (Kd.pair (Kd.int .i64) (Kd.pair kF (Kd.pair kS k24))).K w (a0, a1, a2, a3) cs
 refine pair_K 1 (by rw [List.drop_zero] at J0; exact J0) (pair_K 40 J1 (pair_K 39 (by rw [List.drop_drop]; exact J2) (by rw [List.drop_drop, List.drop_drop]; exact J3)))
theorem openI : Opens Tryz.prog 3 (Kd.int .i64) (fun n => (Lit.int .i64 n).wf = true) := opens_int (k := .i64) Tryz.underlying3
theorem gwfS_of {x : Ses} (h : GS x) : wfS x := ⟨(wf_u h.2.2.1).1, (wf_u h.2.2.2.1).1⟩
theorem gwfF_of {f : Frm} (h : GF f) : wfF f := ⟨wf_u h.2.2.1, wf_u h.2.2.2.1, wf_u h.2.2.2.2.2.1⟩
theorem symAgree_any (U : List Usr) (AU : Option Addr) (cU : Nat) (bad : List Int) (AB : Option Addr) (cB : Nat) (idle : Int) (L : List Ac) (A : Option Addr) (c : Nat) (w : World) (hU : kU.C w AU U.length U) (hcU : U.length ≤ cU) (_gU : U.length ≤ maxLen ∧ ∀ x ∈ U, True) (hB : (Kd.int .i64).C w AB bad.length bad) (_hcB : bad.length ≤ cB) (_gB : bad.length ≤ maxLen ∧ ∀ n ∈ bad, (Lit.int .i64 n).wf = true) (_gi : (Lit.int .i64 idle).wf = true) (hr : kA.C w A L.length L) (_hc : L.length ≤ c) (gL : L.length ≤ maxLen ∧ ∀ x ∈ L, GA x) :
  Calls Tryz.prog 4 #[.slice AU U.length cU, .slice AB bad.length cB, .int .i64 idle, .slice A L.length c] w fun e w' => e = .returned (.bool true) ∧ Below w.heap.size w w' :=
 agree_walk U AU cU bad AB cB idle L A c w hU hcU hB hr fun a ha => ⟨gwfS_of (gL.2 a ha).1, gwfF_of (gL.2 a ha).2⟩
end Go.Proofs.YtdinphnljokigaaGreat.P
end
