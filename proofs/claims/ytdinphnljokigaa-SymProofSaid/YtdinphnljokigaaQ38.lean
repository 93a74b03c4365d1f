/- What LawSymProof rests on, part 38: several texts put together. -/
import Derived.Test.YtdinphnljokigaaQ0
import Derived.ChangeArms
import Derived.Deep.Slices
import Derived.Test.YtdinphnljokigaaQ3
import Derived.Test.YtdinphnljokigaaQ12
import Derived.OpenShut
import Derived.Test.YtdinphnljokigaaQ36
import Derived.Test.YtdinphnljokigaaQ37
import Derived.Test.YtdinphnljokigaaQ2
set_option linter.unusedVariables false
set_option linter.unnecessarySimpa false
set_option linter.unusedSimpArgs false
set_option maxRecDepth 100000
section
namespace Go.Proofs.Ytdinphnljokigaa.P
open Go.RowKit Go.Proofs.YtdinphnljokigaaW.PrintWords
/-- At so much fuel: whatever reads as a datum of type t has cells of kind d, of something that is G. -/
def OpensAt {α : Type} (P : Program) (n : Nat) (t : TypeId) (d : Kd α) (G : α → Prop) : Prop :=
 ∀ (H : Type) (enc : TypeId × Value → H) (w : World) (base : Nat) (spare : Nat → Bool) (held : Bool) (cs : List Value) (x : DataW H × List MemPlace),
  DataW.trod enc P w base spare held n t cs = some x → ∃ a, d.K w a cs ∧ G a
def Opens {α : Type} (P : Program) (t : TypeId) (d : Kd α) (G : α → Prop) : Prop := ∀ n, OpensAt P n t d G
section
variable {P : Program} {t e : TypeId}
theorem opens_int {k : IntKind} (ht : P.underlying t = some (.int k)) : Opens P t (Kd.int k) (fun n => (Lit.int k n).wf = true) := by
 intro n H enc w base spare held cs x h
 obtain ⟨m, rfl, rfl, hw⟩ := DataW.trod_int ht h
 exact ⟨m, rfl, hw⟩
theorem opens_bool (ht : P.underlying t = some .bool) : Opens P t Kd.bool (fun _ => True) := by
 intro n H enc w base spare held cs x h
 obtain ⟨m, rfl, rfl⟩ := DataW.trod_bool ht h
 exact ⟨m, rfl, trivial⟩
/-- A struct's field. -/
theorem opens_field {α : Type} {d : Kd α} {G : α → Prop} {H : Type} {enc : TypeId × Value → H} {w : World} {base : Nat} {spare : Nat → Bool} {held : Bool} {cs : List Value} {n i : Nat} {f : Field} {fs : Array Field} {xs : List (DataW H × List MemPlace)}
  (hxl : xs.length = fs.size) (hf : ∀ (i : Nat) (f : Field), fs[i]? = some f → DataW.trod enc P w base spare held n f.type ((cs.drop f.offset).take (P.cellsOf f.type)) = xs[i]?)
  (hi : fs[i]? = some f) (he : OpensAt P n f.type d G) : ∃ a, d.K w a ((cs.drop f.offset).take (P.cellsOf f.type)) ∧ G a := by
 have h := hf i f hi
 have hlt : i < xs.length := by
  rw [hxl]
  exact (Array.getElem?_eq_some_iff.1 hi).1
 rw [List.getElem?_eq_getElem hlt] at h
 exact he H enc w base spare held _ _ h
/-- An argument. -/
theorem opens_arg {α : Type} {d : Kd α} {G : α → Prop} (h : Opens P t d G) {H : Type} {enc : TypeId × Value → H} {w : World} {base : Nat} {spare : Nat → Bool} {held : Bool} {v : Value} {x : DataW H} {ps : List MemPlace}
  (ht : DataW.Trod enc P w base spare held t v x ps) : ∃ a, d.K w a v.cells.toList ∧ G a := by
 obtain ⟨n, hn⟩ := ht
 exact h n H enc w base spare held _ _ hn
end
end Go.Proofs.Ytdinphnljokigaa.P
end

section
namespace Go.Proofs.Ytdinphnljokigaa.P
open Go.RowKit Go.Lib Go.Proofs.YtdinphnljokigaaW.PrintWords Go.Proofs.YtdinphnljokigaaW.PrintLast Go.Proofs.YtdinphnljokigaaW.PrintMore
def GS (x : Ses) : Prop := (Lit.int .i64 x.user).wf = true ∧ (Lit.int .i64 x.epoch).wf = true ∧ (Lit.int .u64 x.draw).wf = true ∧ (Lit.int .u64 x.cn).wf = true ∧ (Lit.int .u64 x.count).wf = true ∧ (Lit.int .i64 x.last).wf = true
theorem list_of_ones {cs : List Value} {n : Nat} (hl : cs.length = n) (h : ∀ i, i < n → ∃ m : Int, (cs.drop i).take 1 = [.int .u8 m]) : ∃ l : List Int, l.length = n ∧ cs = l.map (Value.int .u8) := by
 induction cs generalizing n with
 | nil => exact ⟨[], by simpa using hl, rfl⟩
 | cons c cs ih =>
  cases n with
  | zero => simp at hl
  | succ n =>
   obtain ⟨m, hm⟩ := h 0 (by omega)
   obtain ⟨l, h1, h2⟩ := ih (n := n) (by simpa using hl) (fun i hi => by
    obtain ⟨m, hm⟩ := h (i + 1) (by omega)
    exact ⟨m, by simpa using hm⟩)
   refine ⟨m :: l, by simp [h1], ?_⟩
   have : c = .int .u8 m := by simpa using hm
   rw [this, h2]
   rfl
theorem drop_one {cs : List Value} {i : Nat} {v : Value} (h : (cs.drop i).take 1 = [v]) : cs.drop i = v :: cs.drop (i + 1) := by
 have h1 := congrArg List.head? h
 cases hd : cs.drop i with
 | nil => rw [hd] at h; simp at h
 | cons c r =>
  rw [hd] at h
  have hc : c = v := by simpa using h
  have hr : cs.drop (i + 1) = r := by
   have := congrArg (fun z : List Value => z.drop 1) hd
   simpa [List.drop_drop] using this
  rw [hr, hc]
theorem openKey : ∀ (n : Nat) (H : Type) (enc : TypeId × Value → H) (w : World) (base : Nat) (spare : Nat → Bool) (held : Bool) (cs : List Value) (x : DataW H × List MemPlace),
  DataW.trod enc Try.prog w base spare held n 24 cs = some x → ∃ k : Key, cs = k.1.map (Value.int .u8) := by
 intro n H enc w base spare held cs x h
 obtain ⟨xs, m, _, _, hl, hxl, hf⟩ := DataW.trod_array Try.underlying24 h
 have e1 : Try.prog.cellsOf 24 = 32 := by kernel_rfl
 have e2 : Try.prog.cellsOf 5 = 1 := by kernel_rfl
 rw [e1] at hl
 obtain ⟨l, h1, h2⟩ := list_of_ones hl (fun i hi => by
  have hi2 := hf i hi
  rw [e2, Nat.mul_one, List.getElem?_eq_getElem (by omega)] at hi2
  obtain ⟨m, hm, _⟩ := DataW.trod_int Try.underlying5 hi2
  exact ⟨m, hm⟩)
 exact ⟨⟨l, h1⟩, h2⟩
theorem openS : Opens Try.prog 26 kS GS := by
 intro n H enc w base spare held cs x h
 obtain ⟨xs, m, rfl, rfl, hl, hxl, hf⟩ := DataW.trod_struct Try.underlying26 h
 have gi : ∀ (j : Nat) (f : Field) (k : IntKind), (Try.prog.underlying f.type = some (.int k)) → ([{ name := "User", type := 3, offset := 0, embedded := false, tag := "", pkgPath := "", byteOffset := 0 }] : List Field).length = 1 → True := fun _ _ _ _ _ => trivial
 clear gi
 obtain ⟨a0, K0, g0⟩ := opens_field hxl hf (i := 0) rfl ((opens_int (k := .i64) Try.underlying3) m)
 obtain ⟨a1, K1, g1⟩ := opens_field hxl hf (i := 1) rfl ((opens_int (k := .i64) Try.underlying3) m)
 obtain ⟨a2, K2, g2⟩ := opens_field hxl hf (i := 2) rfl ((opens_int (k := .u64) Try.underlying22) m)
 obtain ⟨a3, K3, g3⟩ := opens_field hxl hf (i := 3) rfl ((opens_int (k := .u64) Try.underlying22) m)
 obtain ⟨k4, K4⟩ : ∃ k : Key, (cs.drop 4).take (Try.prog.cellsOf 24) = k.1.map (Value.int .u8) := by
  have hq := hf 4 _ rfl
  have hlt : 4 < xs.length := by rw [hxl]; decide
  rw [List.getElem?_eq_getElem hlt] at hq
  exact openKey m H enc w base spare held _ _ hq
 obtain ⟨a5, K5, g5⟩ := opens_field hxl hf (i := 5) rfl ((opens_bool Try.underlying4) m)
 obtain ⟨a6, K6, g6⟩ := opens_field hxl hf (i := 6) rfl ((opens_int (k := .u64) Try.underlying22) m)
 obtain ⟨a7, K7, g7⟩ := opens_field hxl hf (i := 7) rfl ((opens_int (k := .i64) Try.underlying3) m)
 have e0 : Try.prog.cellsOf 26 = 39 := by kernel_rfl
 have e1 : Try.prog.cellsOf 3 = 1 := by kernel_rfl
 have e2 : Try.prog.cellsOf 22 = 1 := by kernel_rfl
 have e3 : Try.prog.cellsOf 4 = 1 := by kernel_rfl
 have e4 : Try.prog.cellsOf 24 = 32 := by kernel_rfl
 rw [e0] at hl
 have J0 : (cs.drop 0).take 1 = [.int .i64 a0] := by have q : (cs.drop 0).take (Try.prog.cellsOf 3) = _ := K0; rw [e1] at q; exact q
 have J1 : (cs.drop 1).take 1 = [.int .i64 a1] := by have q : (cs.drop 1).take (Try.prog.cellsOf 3) = _ := K1; rw [e1] at q; exact q
 have J2 : (cs.drop 2).take 1 = [.int .u64 a2] := by have q : (cs.drop 2).take (Try.prog.cellsOf 22) = _ := K2; rw [e2] at q; exact q
 have J3 : (cs.drop 3).take 1 = [.int .u64 a3] := by have q : (cs.drop 3).take (Try.prog.cellsOf 22) = _ := K3; rw [e2] at q; exact q
 have J5 : (cs.drop 36).take 1 = [.bool a5] := by have q : (cs.drop 36).take (Try.prog.cellsOf 4) = _ := K5; rw [e3] at q; exact q
 have J6 : (cs.drop 37).take 1 = [.int .u64 a6] := by have q : (cs.drop 37).take (Try.prog.cellsOf 22) = _ := K6; rw [e2] at q; exact q
 have J7 : (cs.drop 38).take 1 = [.int .i64 a7] := by have q : (cs.drop 38).take (Try.prog.cellsOf 3) = _ := K7; rw [e1] at q; exact q
 rw [e4] at K4
 refine ⟨⟨a0, a1, a2, a3, k4, a5, a6, a7⟩, ?_, g0, g1, g2, g3, g6, g7⟩
 show cs = scl _
 have st := fun (i : Nat) (v : Value) => @drop_one cs i v
 have s4 : cs.drop 4 = k4.1.map (Value.int .u8) ++ cs.drop 36 := by
  have h1 := (List.take_append_drop 32 (cs.drop 4)).symm
  rw [K4, List.drop_drop] at h1
  exact h1
 have s39 : cs.drop 39 = [] := List.drop_eq_nil_of_le (by omega)
 have h0 := st 0 _ J0
 rw [List.drop_zero, st 1 _ J1, st 2 _ J2, st 3 _ J3, s4, st 36 _ J5, st 37 _ J6, st 38 _ J7, s39] at h0
 exact h0
def kF : Kd Frm where
 sz := 40
 E := []
 K := fun _ x cs => cs = fcl x
 M := fun _ _ _ x cs => cs = fcl x
 K_len := fun h => by rw [h]; exact fcl_len _
 K_one := fun h u hu => by rw [h] at hu; exact fcl_one _ u hu
 K_below := fun _ h => h
 K_of_M := fun h => h
 M_mono := fun _ h => h
 M_bound := fun h => h
 M_move := fun _ h => h
 M_lower := fun _ h => h
def GF (x : Frm) : Prop := (Lit.int .i64 x.kind).wf = true ∧ (Lit.int .i64 x.user).wf = true ∧ (Lit.int .u64 x.sess).wf = true ∧ (Lit.int .u64 x.cn).wf = true ∧ (Lit.int .i64 x.epoch).wf = true ∧ (Lit.int .u64 x.count).wf = true ∧ (Lit.int .i64 x.cmd).wf = true ∧ (Lit.int .i64 x.arg).wf = true
theorem openF : Opens Try.prog 28 kF GF := by
 intro n H enc w base spare held cs x h
 obtain ⟨xs, m, rfl, rfl, hl, hxl, hf⟩ := DataW.trod_struct Try.underlying28 h
 obtain ⟨a0, K0, g0⟩ := opens_field hxl hf (i := 0) rfl ((opens_int (k := .i64) Try.underlying3) m)
 obtain ⟨a1, K1, g1⟩ := opens_field hxl hf (i := 1) rfl ((opens_int (k := .i64) Try.underlying3) m)
 obtain ⟨a2, K2, g2⟩ := opens_field hxl hf (i := 2) rfl ((opens_int (k := .u64) Try.underlying22) m)
 obtain ⟨a3, K3, g3⟩ := opens_field hxl hf (i := 3) rfl ((opens_int (k := .u64) Try.underlying22) m)
 obtain ⟨a4, K4, g4⟩ := opens_field hxl hf (i := 4) rfl ((opens_int (k := .i64) Try.underlying3) m)
 obtain ⟨a5, K5, g5⟩ := opens_field hxl hf (i := 5) rfl ((opens_int (k := .u64) Try.underlying22) m)
 obtain ⟨a6, K6, g6⟩ := opens_field hxl hf (i := 6) rfl ((opens_int (k := .i64) Try.underlying3) m)
 obtain ⟨a7, K7, g7⟩ := opens_field hxl hf (i := 7) rfl ((opens_int (k := .i64) Try.underlying3) m)
 obtain ⟨k8, K8⟩ : ∃ k : Key, (cs.drop 8).take (Try.prog.cellsOf 24) = k.1.map (Value.int .u8) := by
  have hq := hf 8 _ rfl
  have hlt : 8 < xs.length := by rw [hxl]; decide
  rw [List.getElem?_eq_getElem hlt] at hq
  exact openKey m H enc w base spare held _ _ hq
 have e0 : Try.prog.cellsOf 28 = 40 := by kernel_rfl
 have e1 : Try.prog.cellsOf 3 = 1 := by kernel_rfl
 have e2 : Try.prog.cellsOf 22 = 1 := by kernel_rfl
 have e4 : Try.prog.cellsOf 24 = 32 := by kernel_rfl
 rw [e0] at hl
 have J0 : (cs.drop 0).take 1 = [.int .i64 a0] := by have q : (cs.drop 0).take (Try.prog.cellsOf 3) = _ := K0; rw [e1] at q; exact q
 have J1 : (cs.drop 1).take 1 = [.int .i64 a1] := by have q : (cs.drop 1).take (Try.prog.cellsOf 3) = _ := K1; rw [e1] at q; exact q
 have J2 : (cs.drop 2).take 1 = [.int .u64 a2] := by have q : (cs.drop 2).take (Try.prog.cellsOf 22) = _ := K2; rw [e2] at q; exact q
 have J3 : (cs.drop 3).take 1 = [.int .u64 a3] := by have q : (cs.drop 3).take (Try.prog.cellsOf 22) = _ := K3; rw [e2] at q; exact q
 have J4 : (cs.drop 4).take 1 = [.int .i64 a4] := by have q : (cs.drop 4).take (Try.prog.cellsOf 3) = _ := K4; rw [e1] at q; exact q
 have J5 : (cs.drop 5).take 1 = [.int .u64 a5] := by have q : (cs.drop 5).take (Try.prog.cellsOf 22) = _ := K5; rw [e2] at q; exact q
 have J6 : (cs.drop 6).take 1 = [.int .i64 a6] := by have q : (cs.drop 6).take (Try.prog.cellsOf 3) = _ := K6; rw [e1] at q; exact q
 have J7 : (cs.drop 7).take 1 = [.int .i64 a7] := by have q : (cs.drop 7).take (Try.prog.cellsOf 3) = _ := K7; rw [e1] at q; exact q
 rw [e4] at K8
 refine ⟨⟨a0, a1, a2, a3, a4, a5, a6, a7, k8⟩, ?_, g0, g1, g2, g3, g4, g5, g6, g7⟩
 show cs = fcl _
 have st := fun (i : Nat) (v : Value) => @drop_one cs i v
 have s8 : cs.drop 8 = k8.1.map (Value.int .u8) ++ cs.drop 40 := by
  have h1 := (List.take_append_drop 32 (cs.drop 8)).symm
  rw [K8, List.drop_drop] at h1
  exact h1
 have s40 : cs.drop 40 = [] := List.drop_eq_nil_of_le (by omega)
 have h0 := st 0 _ J0
 rw [List.drop_zero, st 1 _ J1, st 2 _ J2, st 3 _ J3, st 4 _ J4, st 5 _ J5, st 6 _ J6, st 7 _ J7, s8, s40] at h0
 rw [h0]
 simp [fcl]
theorem wf_u {n : Int} (h : (Lit.int .u64 n).wf = true) : 0 ≤ n ∧ n < 18446744073709551616 := by
 have h' : IntKind.u64.min ≤ n ∧ n ≤ IntKind.u64.max := by simpa [Lit.wf] using h
 have e1 : IntKind.u64.min = 0 := by decide
 have e2 : IntKind.u64.max = 18446744073709551615 := by decide
 omega
theorem wfS_of {x : Ses} (h : GS x) : wfS x := ⟨(wf_u h.2.2.1).1, (wf_u h.2.2.2.1).1⟩
theorem wfF_of {f : Frm} (h : GF f) : wfF f := ⟨wf_u h.2.2.1, wf_u h.2.2.2.1, wf_u h.2.2.2.2.2.1⟩
theorem symProof_any (x : Ses) (f : Frm) (y : Ses) (g : Frm) (w : World) (hx : GS x) (hf : GF f) (hy : GS y) (hg : GF g) :
  Calls Try.prog 3 #[.agg (sca x), .agg (fca f), .agg (sca y), .agg (fca g)] w fun e w' => e = .returned (.bool true) ∧ Below w.heap.size w w' :=
 symproof_of awake_any x f y g w (wfS_of hx) (wfF_of hf) (wfS_of hy) (wfF_of hg)
end Go.Proofs.Ytdinphnljokigaa.P
end
