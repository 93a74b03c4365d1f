/- What comes in, for this seat: written by a program of the session. -/
import Derived.Test.YtfonjmggalkbjaaHOpens
import Derived.Test.YtfonjmggalkbjaaPx0
namespace Go.Proofs.Ytfonjmggalkbjaa.P
open Go.RowKit Go.Proofs.YtfonjmggalkbjaaW.PrintWords Go.Proofs.YtfonjmggalkbjaaW.PrintLast
set_option linter.unusedVariables false
set_option linter.unusedSimpArgs false
mutual
def G24 (x : S24) : Prop := match x with
  | ⟨a0, a1, a2⟩ => (fun n => (Lit.int .i64 n).wf = true) a0 ∧ (fun n => (Lit.int .i64 n).wf = true) a1 ∧ a2.length ≤ maxLen ∧ GL24 a2
def GL24 (l : List S24) : Prop := match l with
  | [] => True
  | x :: l => G24 x ∧ GL24 l
end
theorem GL24_of : ∀ {l : List S24}, (∀ x ∈ l, G24 x) → GL24 l
  | [], _ => by rw [GL24]; trivial
  | x :: l, h => by rw [GL24]; exact ⟨h x (by simp), GL24_of (fun y hy => h y (by simp [hy]))⟩
theorem GL24_mem : ∀ {l : List S24}, GL24 l → ∀ x ∈ l, G24 x
  | [], _, x, hx => by simp at hx
  | y :: l, h, x, hx => by
    rw [GL24] at h
    rcases List.mem_cons.1 hx with rfl | hx
    · exact h.1
    · exact GL24_mem h.2 x hx
theorem open24 : Opens Try.prog 24 k24 G24 := by
  intro n
  induction n using Nat.strongRecOn with | _ n ih =>
  intro H enc w base spare held cs x h
  obtain ⟨xs, m, rfl, rfl, hl, hxl, hf⟩ := DataW.trod_struct Try.underlying24 h
  obtain ⟨a0, K0, g0⟩ := opens_field hxl hf (i := 0) rfl ((opens_int (k := .i64) Try.underlying3) m)
  obtain ⟨a1, K1, g1⟩ := opens_field hxl hf (i := 1) rfl ((opens_int (k := .i64) Try.underlying3) m)
  have hs : OpensAt Try.prog m 22 (Kd.slice 24 k24) (fun l => l.length ≤ maxLen ∧ ∀ x ∈ l, G24 x) := by
    cases m with
    | zero => intro H enc w base spare held cs x h; simp [DataW.trod] at h
    | succ m => exact opens_slice m Try.underlying22 (by kernel_rfl) (ih m (by omega))
  obtain ⟨a2, K2, g2⟩ := opens_field hxl hf (i := 2) rfl hs
  have e24_ : Try.prog.cellsOf 24 = 3 := by kernel_rfl
  rw [e24_] at hl
  have e3 : Try.prog.cellsOf 3 = 1 := by kernel_rfl
  have e22 : Try.prog.cellsOf 22 = 1 := by kernel_rfl
  have J0 : ((Kd.int .i64)).K w a0 ((cs.drop 0).take 1) := by have q : ((Kd.int .i64)).K w a0 ((cs.drop 0).take (Try.prog.cellsOf 3)) := K0; rw [e3] at q; exact q
  have J1 : ((Kd.int .i64)).K w a1 ((cs.drop 1).take 1) := by have q : ((Kd.int .i64)).K w a1 ((cs.drop 1).take (Try.prog.cellsOf 3)) := K1; rw [e3] at q; exact q
  have J2 : ((Kd.slice 24 k24)).K w a2 ((cs.drop 2).take 1) := by have q : ((Kd.slice 24 k24)).K w a2 ((cs.drop 2).take (Try.prog.cellsOf 22)) := K2; rw [e22] at q; exact q
  obtain ⟨A_, c_, q2, l_, C_⟩ := J2
  have q0 : (cs.drop 0).take 1 = [.int .i64 a0] := J0
  have q1 : (cs.drop 1).take 1 = [.int .i64 a1] := J1
  have e : cs = [.int .i64 a0, .int .i64 a1, .slice A_ a2.length c_] := by
    obtain ⟨y0, y1, y2, rfl⟩ : ∃ y0 y1 y2 : Value, cs = [y0, y1, y2] := by
      match cs, hl with
      | [y0, y1, y2], _ => exact ⟨_, _, _, rfl⟩
    simp at q0 q1 q2
    subst q0 q1 q2
    rfl
  subst e
  refine ⟨⟨a0, a1, a2⟩, k24_mk w ⟨a0, a1, a2⟩ l_ C_, ?_⟩
  rw [G24]
  exact ⟨g0, g1, g2.1, GL24_of g2.2⟩
end Go.Proofs.Ytfonjmggalkbjaa.P
