/- What comes in: keys, sessions; pelicanlaw18.Few, pelicanlaw18.awake. -/
import Derived.Test.YtmhphkclgdaajaaHOpens
import Derived.Test.YtmhphkclgdaajaaHSRBegin
import Derived.OpenShut
namespace Go.Proofs.Ytmhphkclgdaajaa.P
open Go.RowKit Go.Lib Go.Proofs.YtmhphkclgdaajaaW.PrintWords Go.Proofs.YtmhphkclgdaajaaW.PrintLast Go.Proofs.YtmhphkclgdaajaaW.PrintMore
set_option linter.unusedVariables false
set_option linter.unusedSimpArgs false
def GS (x : Ses) : Prop := (Lit.int .i64 x.user).wf = true ∧ (Lit.int .i64 x.epoch).wf = true ∧ (Lit.int .u64 x.draw).wf = true ∧ (Lit.int .u64 x.cn).wf = true ∧ (Lit.int .u64 x.count).wf = true ∧ (Lit.int .i64 x.last).wf = true
theorem list_of_ones {cs : List Value} {n : Nat} (hl : cs.length = n) (h : ∀ i, i < n → ∃ m : Int, (cs.drop i).take 1 = [.int .u8 m]) : ∃ l : List Int, l.length = n ∧ cs = l.map (Value.int .u8) := by
  induction cs generalizing n with
  | nil => exact ⟨[], by simpa using hl, rfl⟩
  | cons c cs ih =>
    cases n with
    | zero => simp at hl
    | succ n =>
      obtain ⟨m, hm⟩ := h 0 (by omega)
      obtain ⟨l, h1, h2⟩ := ih (n := n) (by simpa using hl) (fun i hi => by
        obtain ⟨m, hm⟩ := h (i + 1) (by omega)
        exact ⟨m, by simpa using hm⟩)
      refine ⟨m :: l, by simp [h1], ?_⟩
      have : c = .int .u8 m := by simpa using hm
      rw [this, h2]
      rfl
theorem openKey : ∀ (n : Nat) (H : Type) (enc : TypeId × Value → H) (w : World) (base : Nat) (spare : Nat → Bool) (held : Bool) (cs : List Value) (x : DataW H × List MemPlace),
    DataW.trod enc Try.prog w base spare held n 33 cs = some x → ∃ k : Key, cs = k.1.map (Value.int .u8) := by
  intro n H enc w base spare held cs x h
  obtain ⟨xs, m, _, _, hl, hxl, hf⟩ := DataW.trod_array Try.underlying33 h
  have e1 : Try.prog.cellsOf 33 = 32 := by kernel_rfl
  have e2 : Try.prog.cellsOf 5 = 1 := by kernel_rfl
  rw [e1] at hl
  obtain ⟨l, h1, h2⟩ := list_of_ones hl (fun i hi => by
    have hi2 := hf i hi
    rw [e2, Nat.mul_one, List.getElem?_eq_getElem (by omega)] at hi2
    obtain ⟨m, hm, _⟩ := DataW.trod_int Try.underlying5 hi2
    exact ⟨m, hm⟩)
  exact ⟨⟨l, h1⟩, h2⟩
theorem openS : Opens Try.prog 35 kS GS := by
  intro n H enc w base spare held cs x h
  obtain ⟨xs, m, rfl, rfl, hl, hxl, hf⟩ := DataW.trod_struct Try.underlying35 h
  have gi : ∀ (j : Nat) (f : Field) (k : IntKind), (Try.prog.underlying f.type = some (.int k)) → ([{ name := "User", type := 3, offset := 0, embedded := false, tag := "", pkgPath := "", byteOffset := 0 }] : List Field).length = 1 → True := fun _ _ _ _ _ => trivial
  clear gi
  obtain ⟨a0, K0, g0⟩ := opens_field hxl hf (i := 0) rfl ((opens_int (k := .i64) Try.underlying3) m)
  obtain ⟨a1, K1, g1⟩ := opens_field hxl hf (i := 1) rfl ((opens_int (k := .i64) Try.underlying3) m)
  obtain ⟨a2, K2, g2⟩ := opens_field hxl hf (i := 2) rfl ((opens_int (k := .u64) Try.underlying23) m)
  obtain ⟨a3, K3, g3⟩ := opens_field hxl hf (i := 3) rfl ((opens_int (k := .u64) Try.underlying23) m)
  obtain ⟨k4, K4⟩ : ∃ k : Key, (cs.drop 4).take (Try.prog.cellsOf 33) = k.1.map (Value.int .u8) := by
    have hq := hf 4 _ rfl
    have hlt : 4 < xs.length := by rw [hxl]; decide
    rw [List.getElem?_eq_getElem hlt] at hq
    exact openKey m H enc w base spare held _ _ hq
  obtain ⟨a5, K5, g5⟩ := opens_field hxl hf (i := 5) rfl ((opens_bool Try.underlying4) m)
  obtain ⟨a6, K6, g6⟩ := opens_field hxl hf (i := 6) rfl ((opens_int (k := .u64) Try.underlying23) m)
  obtain ⟨a7, K7, g7⟩ := opens_field hxl hf (i := 7) rfl ((opens_int (k := .i64) Try.underlying3) m)
  have e0 : Try.prog.cellsOf 35 = 39 := by kernel_rfl
  have e1 : Try.prog.cellsOf 3 = 1 := by kernel_rfl
  have e2 : Try.prog.cellsOf 23 = 1 := by kernel_rfl
  have e3 : Try.prog.cellsOf 4 = 1 := by kernel_rfl
  have e4 : Try.prog.cellsOf 33 = 32 := by kernel_rfl
  rw [e0] at hl
  have J0 : (cs.drop 0).take 1 = [.int .i64 a0] := by have q : (cs.drop 0).take (Try.prog.cellsOf 3) = _ := K0; rw [e1] at q; exact q
  have J1 : (cs.drop 1).take 1 = [.int .i64 a1] := by have q : (cs.drop 1).take (Try.prog.cellsOf 3) = _ := K1; rw [e1] at q; exact q
  have J2 : (cs.drop 2).take 1 = [.int .u64 a2] := by have q : (cs.drop 2).take (Try.prog.cellsOf 23) = _ := K2; rw [e2] at q; exact q
  have J3 : (cs.drop 3).take 1 = [.int .u64 a3] := by have q : (cs.drop 3).take (Try.prog.cellsOf 23) = _ := K3; rw [e2] at q; exact q
  have J5 : (cs.drop 36).take 1 = [.bool a5] := by have q : (cs.drop 36).take (Try.prog.cellsOf 4) = _ := K5; rw [e3] at q; exact q
  have J6 : (cs.drop 37).take 1 = [.int .u64 a6] := by have q : (cs.drop 37).take (Try.prog.cellsOf 23) = _ := K6; rw [e2] at q; exact q
  have J7 : (cs.drop 38).take 1 = [.int .i64 a7] := by have q : (cs.drop 38).take (Try.prog.cellsOf 3) = _ := K7; rw [e1] at q; exact q
  rw [e4] at K4
  refine ⟨⟨a0, a1, a2, a3, k4, a5, a6, a7⟩, ?_, g0, g1, g2, g3, g6, g7⟩
  show cs = scl _
  have st : ∀ (i : Nat) (v : Value), (cs.drop i).take 1 = [v] → cs.drop i = v :: cs.drop (i + 1) := by
    intro i v h
    have h1 := congrArg List.head? h
    cases hd : cs.drop i with
    | nil => rw [hd] at h; simp at h
    | cons c r =>
      rw [hd] at h
      have hc : c = v := by simpa using h
      have hr : cs.drop (i + 1) = r := by
        have := congrArg (fun z : List Value => z.drop 1) hd
        simpa [List.drop_drop] using this
      rw [hr, hc]
  have s4 : cs.drop 4 = k4.1.map (Value.int .u8) ++ cs.drop 36 := by
    have h1 := (List.take_append_drop 32 (cs.drop 4)).symm
    rw [K4, List.drop_drop] at h1
    exact h1
  have s39 : cs.drop 39 = [] := List.drop_eq_nil_of_le (by omega)
  have h0 := st 0 _ J0
  rw [List.drop_zero, st 1 _ J1, st 2 _ J2, st 3 _ J3, s4, st 36 _ J5, st 37 _ J6, st 38 _ J7, s39] at h0
  exact h0
theorem few_any (l : List Ses) (A : Option Addr) (c : Nat) (w : World) : Calls Try.prog 10 #[.slice A l.length c] w fun e w' => e = .returned (.bool (decide (l.length ≤ 8))) ∧ w = w' := by
  go_enter Try.func10, Try.ntmps10
  go_wp2
  go_ret
  refine ⟨?_, rfl⟩
  exact ret_bool (by rw [decide_eq_decide]; omega)
end Go.Proofs.Ytmhphkclgdaajaa.P
