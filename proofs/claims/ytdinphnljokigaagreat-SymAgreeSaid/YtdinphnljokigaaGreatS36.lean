/- What LawSymAgree rests on, part 36: several texts put together. -/
import Derived.Test.YtdinphnljokigaaGreatS0
import Derived.ChangeArms
import Derived.Deep.Slices
import Derived.Test.YtdinphnljokigaaGreatS4
import Derived.Test.YtdinphnljokigaaGreatS13
import Derived.OpenShut
import Derived.Test.YtdinphnljokigaaGreatS34
import Derived.Test.YtdinphnljokigaaGreatS33
import Derived.Test.YtdinphnljokigaaGreatS35
import Derived.Test.YtdinphnljokigaaGreatS22
import Derived.Test.YtdinphnljokigaaGreatS28
import Derived.Test.YtdinphnljokigaaGreatS3
set_option linter.unusedVariables false
set_option linter.unnecessarySimpa false
set_option linter.unusedSimpArgs false
set_option maxRecDepth 100000
section
namespace Go.Proofs.YtdinphnljokigaaGreat.P
open Go.RowKit Go.Proofs.YtdinphnljokigaaGreatW.PrintWords
def OpensAt {α : Type} (P : Program) (n : Nat) (t : TypeId) (d : Kd α) (G : α → Prop) : Prop :=
 ∀ (H : Type) (enc : TypeId × Value → H) (w : World) (base : Nat) (spare : Nat → Bool) (held : Bool) (cs : List Value) (x : DataW H × List MemPlace),
  DataW.trod enc P w base spare held n t cs = some x → ∃ a, d.K w a cs ∧ G a
def Opens {α : Type} (P : Program) (t : TypeId) (d : Kd α) (G : α → Prop) : Prop := ∀ n, OpensAt P n t d G
section
variable {P : Program} {t e : TypeId}
theorem opens_int {k : IntKind} (ht : P.underlying t = some (.int k)) : Opens P t (Kd.int k) (fun n => (Lit.int k n).wf = true) := by
 intro n H enc w base spare held cs x h
 obtain ⟨m, rfl, rfl, hw⟩ := DataW.trod_int ht h
 exact ⟨m, rfl, hw⟩
theorem opens_bool (ht : P.underlying t = some .bool) : Opens P t Kd.bool (fun _ => True) := by
 intro n H enc w base spare held cs x h
 obtain ⟨m, rfl, rfl⟩ := DataW.trod_bool ht h
 exact ⟨m, rfl, trivial⟩
theorem add_add_' (a : Addr) (p i : Nat) : (a.add p).add i = a.add (p + i) := by
 unfold Addr.add
 by_cases hp : p = 0
 ·subst hp; simp
 ·by_cases hi : i = 0
  ·subst hi; simp
  ·simp [hp, hi, Nat.add_assoc]
theorem cells_some {w : World} {base : Nat} {a : Addr} {n : Nat} {cs : List Value} (h : w.cells? base a n = some cs) : cs.length = n ∧ ∀ i u, cs[i]? = some u → w.cell? (a.add i) = some u := by
 unfold World.cells? at h
 split at h
 ·have hl := mapM_some_length h
  simp at hl
  refine ⟨hl, fun i u hi => ?_⟩
  have hlt : i < n := by
   have := (List.getElem?_eq_some_iff.1 hi).1
   omega
  have := mapM_some_get h i i (by simp [hlt])
  rw [this]
  exact hi
 ·cases h
theorem opens_slice {α : Type} {d : Kd α} {G : α → Prop} (n : Nat) (ht : P.underlying t = some (.slice e)) (hc : P.cellsOf e = d.sz) (he : OpensAt P n e d G) :
  OpensAt P (n + 1) t (Kd.slice e d) (fun l => l.length ≤ maxLen ∧ ∀ x ∈ l, G x) := by
 intro H enc w base spare held cs x h
 rcases DataW.trod_slice ht h with ⟨rfl, rfl⟩ | ⟨a, len, cap, elems, rest, m, hm, rfl, rfl, hb, hl, hcap, hlen, hel, _, _⟩
 ·exact ⟨[], ⟨none, 0, rfl, Nat.le_refl _, ⟨rfl, by simp, fun h => absurd h (by simp)⟩⟩, by simp [maxLen], by simp⟩
 ·obtain rfl : n = m := by omega
  have key : ∀ i, i < len → ∃ p c, w.cells? base (a.add (i * P.cellsOf e)) (P.cellsOf e) = some c ∧ d.K w p c ∧ G p := by
   intro i hi
   have h1 := hel i hi
   rw [List.getElem?_eq_getElem (by omega)] at h1
   obtain ⟨c, hc1, hc2⟩ := Option.bind_eq_some_iff.1 h1
   obtain ⟨p, hp, hg⟩ := he H enc w base spare held c _ hc2
   exact ⟨p, c, hc1, hp, hg⟩
  have keyl : ∀ m, m ≤ len → ∃ l : List α, l.length = m ∧ (∀ x ∈ l, G x) ∧ ∀ j p, l[j]? = some p → ∃ c, w.cells? base (a.add (j * P.cellsOf e)) (P.cellsOf e) = some c ∧ d.K w p c := by
   intro m
   induction m with
   | zero => exact fun _ => ⟨[], rfl, by simp, fun j p hp => by simp at hp⟩
   | succ m ih =>
    intro hm
    obtain ⟨l, h1, h2, h3⟩ := ih (by omega)
    obtain ⟨p, c, hc1, hp, hg⟩ := key m (by omega)
    refine ⟨l ++ [p], by simp [h1], fun x hx => ?_, fun j q hq => ?_⟩
    ·rcases List.mem_append.1 hx with hx | hx
     ·exact h2 x hx
     ·rw [List.mem_singleton.1 hx]; exact hg
    ·rcases Nat.lt_or_ge j l.length with hj | hj
     ·rw [List.getElem?_append_left hj] at hq
      exact h3 j q hq
     ·rw [List.getElem?_append_right hj] at hq
      have hj0 : j - l.length = 0 := by
       have := (List.getElem?_eq_some_iff.1 hq).1
       simp at this
       omega
      rw [hj0] at hq
      simp at hq
      subst hq
      obtain rfl : j = m := by omega
      exact ⟨c, hc1, hp⟩
  obtain ⟨l, h1, h2, h3⟩ := keyl len (Nat.le_refl _)
  refine ⟨l, ⟨some a, cap, by rw [h1], by omega, ⟨rfl, by unfold maxLen at hcap; omega, fun _ => ⟨a, rfl, fun j p hp => ?_⟩⟩⟩, by omega, h2⟩
  obtain ⟨c, hc1, hk⟩ := h3 j p hp
  obtain ⟨hc2, hc3⟩ := cells_some hc1
  refine ⟨c, by rw [hc2, hc], hk, fun i u hu => ?_⟩
  have := hc3 i u hu
  rw [add_add_', hc] at this
  exact this
theorem opens_slice' {α : Type} {d : Kd α} {G : α → Prop} (ht : P.underlying t = some (.slice e)) (hc : P.cellsOf e = d.sz) (he : Opens P e d G) :
  Opens P t (Kd.slice e d) (fun l => l.length ≤ maxLen ∧ ∀ x ∈ l, G x) := by
 intro n
 cases n with
 | zero => intro H enc w base spare held cs x h; simp [DataW.trod] at h
 | succ n => exact opens_slice n ht hc (he n)
theorem pair_K {α β : Type} {a : Kd α} {b : Kd β} {w : World} {cs : List Value} {x : α} {y : β} (n : Nat) (h0 : a.K w x (cs.take n)) (h1 : b.K w y (cs.drop n)) : (Kd.pair a b).K w (x, y) cs :=
 ⟨_, _, (List.take_append_drop n cs).symm, h0, h1⟩
theorem opens_field {α : Type} {d : Kd α} {G : α → Prop} {H : Type} {enc : TypeId × Value → H} {w : World} {base : Nat} {spare : Nat → Bool} {held : Bool} {cs : List Value} {n i : Nat} {f : Field} {fs : Array Field} {xs : List (DataW H × List MemPlace)}
  (hxl : xs.length = fs.size) (hf : ∀ (i : Nat) (f : Field), fs[i]? = some f → DataW.trod enc P w base spare held n f.type ((cs.drop f.offset).take (P.cellsOf f.type)) = xs[i]?)
  (hi : fs[i]? = some f) (he : OpensAt P n f.type d G) : ∃ a, d.K w a ((cs.drop f.offset).take (P.cellsOf f.type)) ∧ G a := by
 have h := hf i f hi
 have hlt : i < xs.length := by
  rw [hxl]
  exact (Array.getElem?_eq_some_iff.1 hi).1
 rw [List.getElem?_eq_getElem hlt] at h
 exact he H enc w base spare held _ _ h
theorem opens_arg {α : Type} {d : Kd α} {G : α → Prop} (h : Opens P t d G) {H : Type} {enc : TypeId × Value → H} {w : World} {base : Nat} {spare : Nat → Bool} {held : Bool} {v : Value} {x : DataW H} {ps : List MemPlace}
  (ht : DataW.Trod enc P w base spare held t v x ps) : ∃ a, d.K w a v.cells.toList ∧ G a := by
 obtain ⟨n, hn⟩ := ht
 exact h n H enc w base spare held _ _ hn
end
end Go.Proofs.YtdinphnljokigaaGreat.P
end

section
namespace Go.Proofs.YtdinphnljokigaaGreat.P
open Go.RowKit Go.Lib Go.Proofs.YtdinphnljokigaaGreatW.PrintWords Go.Proofs.YtdinphnljokigaaGreatW.PrintLast Go.Proofs.YtdinphnljokigaaGreatW.PrintMore
def GS (x : Ses) : Prop := (Lit.int .i64 x.user).wf = true ∧ (Lit.int .i64 x.epoch).wf = true ∧ (Lit.int .u64 x.draw).wf = true ∧ (Lit.int .u64 x.cn).wf = true ∧ (Lit.int .u64 x.count).wf = true ∧ (Lit.int .i64 x.last).wf = true
theorem list_of_ones {cs : List Value} {n : Nat} (hl : cs.length = n) (h : ∀ i, i < n → ∃ m : Int, (cs.drop i).take 1 = [.int .u8 m]) : ∃ l : List Int, l.length = n ∧ cs = l.map (Value.int .u8) := by
 induction cs generalizing n with
 | nil => exact ⟨[], by simpa using hl, rfl⟩
 | cons c cs ih =>
  cases n with
  | zero => simp at hl
  | succ n =>
   obtain ⟨m, hm⟩ := h 0 (by omega)
   obtain ⟨l, h1, h2⟩ := ih (n := n) (by simpa using hl) (fun i hi => by
    obtain ⟨m, hm⟩ := h (i + 1) (by omega)
    exact ⟨m, by simpa using hm⟩)
   refine ⟨m :: l, by simp [h1], ?_⟩
   have : c = .int .u8 m := by simpa using hm
   rw [this, h2]
   rfl
theorem drop_one {cs : List Value} {i : Nat} {v : Value} (h : (cs.drop i).take 1 = [v]) : cs.drop i = v :: cs.drop (i + 1) := by
 have h1 := congrArg List.head? h
 cases hd : cs.drop i with
 | nil => rw [hd] at h; simp at h
 | cons c r =>
  rw [hd] at h
  have hc : c = v := by simpa using h
  have hr : cs.drop (i + 1) = r := by
   have := congrArg (fun z : List Value => z.drop 1) hd
   simpa [List.drop_drop] using this
  rw [hr, hc]
theorem openKey : ∀ (n : Nat) (H : Type) (enc : TypeId × Value → H) (w : World) (base : Nat) (spare : Nat → Bool) (held : Bool) (cs : List Value) (x : DataW H × List MemPlace),
  DataW.trod enc Tryz.prog w base spare held n 29 cs = some x → ∃ k : Key, cs = k.1.map (Value.int .u8) := by
 intro n H enc w base spare held cs x h
 obtain ⟨xs, m, _, _, hl, hxl, hf⟩ := DataW.trod_array Tryz.underlying29 h
 have e1 : Tryz.prog.cellsOf 29 = 32 := by kernel_rfl
 have e2 : Tryz.prog.cellsOf 5 = 1 := by kernel_rfl
 rw [e1] at hl
 obtain ⟨l, h1, h2⟩ := list_of_ones hl (fun i hi => by
  have hi2 := hf i hi
  rw [e2, Nat.mul_one, List.getElem?_eq_getElem (by omega)] at hi2
  obtain ⟨m, hm, _⟩ := DataW.trod_int Tryz.underlying5 hi2
  exact ⟨m, hm⟩)
 exact ⟨⟨l, h1⟩, h2⟩
theorem openS : Opens Tryz.prog 33 kS GS := by
 intro n H enc w base spare held cs x h
 obtain ⟨xs, m, rfl, rfl, hl, hxl, hf⟩ := DataW.trod_struct Tryz.underlying33 h
 have gi : ∀ (j : Nat) (f : Field) (k : IntKind), (Tryz.prog.underlying f.type = some (.int k)) → ([{ name := "User", type := 3, offset := 0, embedded := false, tag := "", pkgPath := "", byteOffset := 0 }] : List Field).length = 1 → True := fun _ _ _ _ _ => trivial
 clear gi
 obtain ⟨a0, K0, g0⟩ := opens_field hxl hf (i := 0) rfl ((opens_int (k := .i64) Tryz.underlying3) m)
 obtain ⟨a1, K1, g1⟩ := opens_field hxl hf (i := 1) rfl ((opens_int (k := .i64) Tryz.underlying3) m)
 obtain ⟨a2, K2, g2⟩ := opens_field hxl hf (i := 2) rfl ((opens_int (k := .u64) Tryz.underlying27) m)
 obtain ⟨a3, K3, g3⟩ := opens_field hxl hf (i := 3) rfl ((opens_int (k := .u64) Tryz.underlying27) m)
 obtain ⟨k4, K4⟩ : ∃ k : Key, (cs.drop 4).take (Tryz.prog.cellsOf 29) = k.1.map (Value.int .u8) := by
  have hq := hf 4 _ rfl
  have hlt : 4 < xs.length := by rw [hxl]; decide
  rw [List.getElem?_eq_getElem hlt] at hq
  exact openKey m H enc w base spare held _ _ hq
 obtain ⟨a5, K5, g5⟩ := opens_field hxl hf (i := 5) rfl ((opens_bool Tryz.underlying4) m)
 obtain ⟨a6, K6, g6⟩ := opens_field hxl hf (i := 6) rfl ((opens_int (k := .u64) Tryz.underlying27) m)
 obtain ⟨a7, K7, g7⟩ := opens_field hxl hf (i := 7) rfl ((opens_int (k := .i64) Tryz.underlying3) m)
 have e0 : Tryz.prog.cellsOf 33 = 39 := by kernel_rfl
 have e1 : Tryz.prog.cellsOf 3 = 1 := by kernel_rfl
 have e2 : Tryz.prog.cellsOf 27 = 1 := by kernel_rfl
 have e3 : Tryz.prog.cellsOf 4 = 1 := by kernel_rfl
 have e4 : Tryz.prog.cellsOf 29 = 32 := by kernel_rfl
 rw [e0] at hl
 have J0 : (cs.drop 0).take 1 = [.int .i64 a0] := by have q : (cs.drop 0).take (Tryz.prog.cellsOf 3) = _ := K0; rw [e1] at q; exact q
 have J1 : (cs.drop 1).take 1 = [.int .i64 a1] := by have q : (cs.drop 1).take (Tryz.prog.cellsOf 3) = _ := K1; rw [e1] at q; exact q
 have J2 : (cs.drop 2).take 1 = [.int .u64 a2] := by have q : (cs.drop 2).take (Tryz.prog.cellsOf 27) = _ := K2; rw [e2] at q; exact q
 have J3 : (cs.drop 3).take 1 = [.int .u64 a3] := by have q : (cs.drop 3).take (Tryz.prog.cellsOf 27) = _ := K3; rw [e2] at q; exact q
 have J5 : (cs.drop 36).take 1 = [.bool a5] := by have q : (cs.drop 36).take (Tryz.prog.cellsOf 4) = _ := K5; rw [e3] at q; exact q
 have J6 : (cs.drop 37).take 1 = [.int .u64 a6] := by have q : (cs.drop 37).take (Tryz.prog.cellsOf 27) = _ := K6; rw [e2] at q; exact q
 have J7 : (cs.drop 38).take 1 = [.int .i64 a7] := by have q : (cs.drop 38).take (Tryz.prog.cellsOf 3) = _ := K7; rw [e1] at q; exact q
 rw [e4] at K4
 refine ⟨⟨a0, a1, a2, a3, k4, a5, a6, a7⟩, ?_, g0, g1, g2, g3, g6, g7⟩
 show cs = scl _
 have st := fun (i : Nat) (v : Value) => @drop_one cs i v
 have s4 : cs.drop 4 = k4.1.map (Value.int .u8) ++ cs.drop 36 := by
  have h1 := (List.take_append_drop 32 (cs.drop 4)).symm
  rw [K4, List.drop_drop] at h1
  exact h1
 have s39 : cs.drop 39 = [] := List.drop_eq_nil_of_le (by omega)
 have h0 := st 0 _ J0
 rw [List.drop_zero, st 1 _ J1, st 2 _ J2, st 3 _ J3, s4, st 36 _ J5, st 37 _ J6, st 38 _ J7, s39] at h0
 exact h0
def kF : Kd Frm where
 sz := 40
 E := []
 K := fun _ x cs => cs = fcl x
 M := fun _ _ _ x cs => cs = fcl x
 K_len := fun h => by rw [h]; exact fcl_len _
 K_one := fun h u hu => by rw [h] at hu; exact fcl_one _ u hu
 K_below := fun _ h => h
 K_of_M := fun h => h
 M_mono := fun _ h => h
 M_bound := fun h => h
 M_move := fun _ h => h
 M_lower := fun _ h => h
def GF (x : Frm) : Prop := (Lit.int .i64 x.kind).wf = true ∧ (Lit.int .i64 x.user).wf = true ∧ (Lit.int .u64 x.sess).wf = true ∧ (Lit.int .u64 x.cn).wf = true ∧ (Lit.int .i64 x.epoch).wf = true ∧ (Lit.int .u64 x.count).wf = true ∧ (Lit.int .i64 x.cmd).wf = true ∧ (Lit.int .i64 x.arg).wf = true
theorem openF : Opens Tryz.prog 31 kF GF := by
 intro n H enc w base spare held cs x h
 obtain ⟨xs, m, rfl, rfl, hl, hxl, hf⟩ := DataW.trod_struct Tryz.underlying31 h
 obtain ⟨a0, K0, g0⟩ := opens_field hxl hf (i := 0) rfl ((opens_int (k := .i64) Tryz.underlying3) m)
 obtain ⟨a1, K1, g1⟩ := opens_field hxl hf (i := 1) rfl ((opens_int (k := .i64) Tryz.underlying3) m)
 obtain ⟨a2, K2, g2⟩ := opens_field hxl hf (i := 2) rfl ((opens_int (k := .u64) Tryz.underlying27) m)
 obtain ⟨a3, K3, g3⟩ := opens_field hxl hf (i := 3) rfl ((opens_int (k := .u64) Tryz.underlying27) m)
 obtain ⟨a4, K4, g4⟩ := opens_field hxl hf (i := 4) rfl ((opens_int (k := .i64) Tryz.underlying3) m)
 obtain ⟨a5, K5, g5⟩ := opens_field hxl hf (i := 5) rfl ((opens_int (k := .u64) Tryz.underlying27) m)
 obtain ⟨a6, K6, g6⟩ := opens_field hxl hf (i := 6) rfl ((opens_int (k := .i64) Tryz.underlying3) m)
 obtain ⟨a7, K7, g7⟩ := opens_field hxl hf (i := 7) rfl ((opens_int (k := .i64) Tryz.underlying3) m)
 obtain ⟨k8, K8⟩ : ∃ k : Key, (cs.drop 8).take (Tryz.prog.cellsOf 29) = k.1.map (Value.int .u8) := by
  have hq := hf 8 _ rfl
  have hlt : 8 < xs.length := by rw [hxl]; decide
  rw [List.getElem?_eq_getElem hlt] at hq
  exact openKey m H enc w base spare held _ _ hq
 have e0 : Tryz.prog.cellsOf 31 = 40 := by kernel_rfl
 have e1 : Tryz.prog.cellsOf 3 = 1 := by kernel_rfl
 have e2 : Tryz.prog.cellsOf 27 = 1 := by kernel_rfl
 have e4 : Tryz.prog.cellsOf 29 = 32 := by kernel_rfl
 rw [e0] at hl
 have J0 : (cs.drop 0).take 1 = [.int .i64 a0] := by have q : (cs.drop 0).take (Tryz.prog.cellsOf 3) = _ := K0; rw [e1] at q; exact q
 have J1 : (cs.drop 1).take 1 = [.int .i64 a1] := by have q : (cs.drop 1).take (Tryz.prog.cellsOf 3) = _ := K1; rw [e1] at q; exact q
 have J2 : (cs.drop 2).take 1 = [.int .u64 a2] := by have q : (cs.drop 2).take (Tryz.prog.cellsOf 27) = _ := K2; rw [e2] at q; exact q
 have J3 : (cs.drop 3).take 1 = [.int .u64 a3] := by have q : (cs.drop 3).take (Tryz.prog.cellsOf 27) = _ := K3; rw [e2] at q; exact q
 have J4 : (cs.drop 4).take 1 = [.int .i64 a4] := by have q : (cs.drop 4).take (Tryz.prog.cellsOf 3) = _ := K4; rw [e1] at q; exact q
 have J5 : (cs.drop 5).take 1 = [.int .u64 a5] := by have q : (cs.drop 5).take (Tryz.prog.cellsOf 27) = _ := K5; rw [e2] at q; exact q
 have J6 : (cs.drop 6).take 1 = [.int .i64 a6] := by have q : (cs.drop 6).take (Tryz.prog.cellsOf 3) = _ := K6; rw [e1] at q; exact q
 have J7 : (cs.drop 7).take 1 = [.int .i64 a7] := by have q : (cs.drop 7).take (Tryz.prog.cellsOf 3) = _ := K7; rw [e1] at q; exact q
 rw [e4] at K8
 refine ⟨⟨a0, a1, a2, a3, a4, a5, a6, a7, k8⟩, ?_, g0, g1, g2, g3, g4, g5, g6, g7⟩
 show cs = fcl _
 have st := fun (i : Nat) (v : Value) => @drop_one cs i v
 have s8 : cs.drop 8 = k8.1.map (Value.int .u8) ++ cs.drop 40 := by
  have h1 := (List.take_append_drop 32 (cs.drop 8)).symm
  rw [K8, List.drop_drop] at h1
  exact h1
 have s40 : cs.drop 40 = [] := List.drop_eq_nil_of_le (by omega)
 have h0 := st 0 _ J0
 rw [List.drop_zero, st 1 _ J1, st 2 _ J2, st 3 _ J3, st 4 _ J4, st 5 _ J5, st 6 _ J6, st 7 _ J7, s8, s40] at h0
 rw [h0]
 simp [fcl]
theorem wf_u {n : Int} (h : (Lit.int .u64 n).wf = true) : 0 ≤ n ∧ n < 18446744073709551616 := by
 have h' : IntKind.u64.min ≤ n ∧ n ≤ IntKind.u64.max := by simpa [Lit.wf] using h
 have e1 : IntKind.u64.min = 0 := by decide
 have e2 : IntKind.u64.max = 18446744073709551615 := by decide
 omega
def runF (M : Mdl) (l : List Ac) : Mdl := l.foldl (fun M a => (stepM M a).1) M
theorem dropS_mem (l : List Ses) (d : Int) : ∀ y ∈ dropS l d, y ∈ l := by
 unfold dropS
 split
 ·exact fun _ h => h
 ·exact fun y hy => (List.eraseIdx_sublist _ _).subset hy
def zac : Ac := ⟨0, zfrm, zses, z24⟩
def kA : Kd Ac := Kd.iso (Kd.pair (Kd.int .i64) (Kd.pair kF (Kd.pair kS k24))) (fun a : Ac => (a.kind, a.F, a.X, a.T))
theorem kA_sz : kA.sz = 83 := by kernel_rfl
theorem kA_open {w : World} {a : Ac} {cs : List Value} (h : kA.K w a cs) : ∃ A2 c2, cs = acl a (.slice A2 a.T.f2.length c2) ∧ a.T.f2.length ≤ c2 ∧ k24.C w A2 a.T.f2.length a.T.f2 := by
 obtain ⟨_, _, rfl, rfl, ⟨_, _, rfl, rfl, ⟨_, _, rfl, rfl, h3⟩⟩⟩ := h
 obtain ⟨A2, c2, rfl, l2, g2⟩ := k24_open h3
 exact ⟨A2, c2, rfl, l2, g2⟩
theorem at_A {w : World} {A : Option Addr} {n : Nat} {l : List Ac} (h : kA.C w A n l) (i : Nat) (hi : i < n) (a : Ac) (ha : l[i]? = some a) :
  ∃ ad A2 c2, A = some ad ∧ (∀ j v, (acl a (.slice A2 a.T.f2.length c2))[j]? = some v → w.cell? ((ad.add (i * 83)).add j) = some v) ∧ a.T.f2.length ≤ c2 ∧ k24.C w A2 a.T.f2.length a.T.f2 := by
 obtain ⟨ad, c, e, _, hK, hc0⟩ := Kd.C_get h zac (i : Int) (by omega) (by omega)
 have hK' : kA.K w (l.getD (i : Int).toNat zac) c := hK
 rw [Int.toNat_natCast, List.getD_eq_getElem?_getD, ha] at hK'
 obtain ⟨A2, c2, hcs, l2, g2⟩ := kA_open hK'
 refine ⟨ad, A2, c2, e, fun j v hv => ?_, l2, g2⟩
 have hc := hc0 j v (by rw [hcs]; exact hv)
 rw [kA_sz, Int.toNat_natCast] at hc
 rw [add_add_']
 exact hc
theorem acts_at {w : World} {ad : Addr} {a : Ac} {v : Value} (h : ∀ j u, (acl a v)[j]? = some u → w.cell? (ad.add j) = some u) : w.cell? ad = some (.int .i64 a.kind) ∧ w.cell? ⟨ad.block, ad.off + 1, none⟩ = some (.int .i64 a.F.kind) ∧ w.cell? ⟨ad.block, ad.off + 43, none⟩ = some (.int .u64 a.X.draw) := by
 have e : ∀ j, 0 < j → ad.add j = ⟨ad.block, ad.off + j, none⟩ := fun j hj => by unfold Addr.add; rw [if_neg (by omega)]
 refine ⟨?_, ?_, ?_⟩
 ·have := h 0 _ rfl
  rwa [show ad.add 0 = ad by simp [Addr.add]] at this
 ·rw [← e 1 (by omega)]
  exact h 1 _ (acl_F a v 0 _ (fcl_at a.F).1)
 ·rw [← e 43 (by omega)]
  exact h 43 _ (acl_X a v 2 _ rfl)
theorem acts_T {w : World} {ad : Addr} {a : Ac} {v : Value} (h : ∀ j u, (acl a v)[j]? = some u → w.cell? (ad.add j) = some u) : w.cell? ⟨ad.block, ad.off + 80, none⟩ = some (.int .i64 a.T.f0) ∧ w.cell? ⟨ad.block, ad.off + 81, none⟩ = some (.int .i64 a.T.f1) ∧ w.cell? ⟨ad.block, ad.off + 82, none⟩ = some v := by
 have e : ∀ j, 0 < j → ad.add j = ⟨ad.block, ad.off + j, none⟩ := fun j hj => by unfold Addr.add; rw [if_neg (by omega)]
 obtain ⟨h1, h2, h3⟩ := acl_T a v
 exact ⟨by rw [← e 80 (by omega)]; exact h 80 _ h1, by rw [← e 81 (by omega)]; exact h 81 _ h2, by rw [← e 82 (by omega)]; exact h 82 _ h3⟩
def runE (M : Mdl) : List Ac → List Int
 | [] => []
 | a :: l => (stepM M a).2 :: runE (stepM M a).1 l
theorem runF_snoc (M : Mdl) (l : List Ac) (a : Ac) : runF M (l ++ [a]) = (stepM (runF M l) a).1 := by
 unfold runF
 rw [List.foldl_append]
 rfl
theorem runE_snoc : ∀ (l : List Ac) (M : Mdl) (a : Ac), runE M (l ++ [a]) = runE M l ++ [(stepM (runF M l) a).2]
 | [], M, a => rfl
 | b :: l, M, a => by
  rw [List.cons_append, runE, runE_snoc l, runE]
  rfl
theorem runE_len : ∀ (l : List Ac) (M : Mdl), (runE M l).length = l.length
 | [], M => rfl
 | a :: l, M => by rw [runE, List.length_cons, runE_len l, List.length_cons]
theorem take_snoc {α : Type} {l : List α} {i : Nat} {a : α} (h : l[i]? = some a) : l.take (i + 1) = l.take i ++ [a] := by
 obtain ⟨hi, e⟩ := List.getElem?_eq_some_iff.1 h
 rw [List.take_succ_eq_append_getElem hi, e]
theorem old_all {P : Ses → Prop} {p : Ses → Bool} {l : List Ses} {d idle now : Int} (h : ∀ x ∈ l, P x) : ∀ y ∈ (oldS p l d idle now).2.1, P y := by
 unfold oldS
 split
 ·exact h
 ·split
  ·exact h
  ·split
   ·exact h
   ·split
    ·exact fun y hy => h y ((List.eraseIdx_sublist _ _).subset hy)
    ·exact h
theorem prove_all {P : Ses → Prop} (hP : ∀ x t, P x → P { { x with isOpen := true } with last := t }) {l : List Ses} {d idle now : Int} (h : ∀ x ∈ l, P x) : ∀ y ∈ (proveS l d idle now).1, P y := by
 have ho := old_all (p := fun _ => true) (d := d) (idle := idle) (now := now) h
 unfold proveS
 dsimp only
 split
 ·split
  ·exact h
  ·rename_i x hx
   split
   ·exact h
   ·intro y hy
    rcases List.mem_or_eq_of_mem_set hy with hy | rfl
    ·exact h y hy
    ·exact hP x _ (h x (List.mem_of_getElem? hx))
 ·exact ho
theorem use_all {P : Ses → Prop} (hP : ∀ x c t, P x → P { { x with count := c } with last := t }) {l : List Ses} {d count idle now : Int} (h : ∀ x ∈ l, P x) : ∀ y ∈ (useS l d count idle now).1, P y := by
 obtain ⟨r, e, hu, hc⟩ := useS_spec l d count idle now
 rw [hu]
 rcases hc with ⟨_, rfl, _⟩ | ⟨_, _, ⟨_, rfl, _⟩ | ⟨i, x, _, hx, _, ⟨_, rfl, _⟩ | ⟨_, ⟨_, rfl, _⟩ | ⟨_, _, _, rfl⟩ | ⟨hlt, _, _, rfl⟩⟩⟩⟩
 ·exact h
 ·exact h
 ·exact fun y hy => h y ((List.eraseIdx_sublist _ _).subset hy)
 ·exact h
 ·exact fun y hy => h y ((List.eraseIdx_sublist _ _).subset hy)
 ·intro y hy
  rcases List.mem_or_eq_of_mem_set hy with hy | rfl
  ·exact h y hy
  ·exact hP x _ _ (h x (List.mem_of_getElem? hx))
theorem awake_len (l : List Ses) (idle now : Int) : (awakeS l idle now).length ≤ l.length := List.length_filter_le _ _
theorem begin_all {P : Ses → Prop} {l : List Ses} {x : Ses} {idle now : Int} (h : ∀ x ∈ l, P x) (hx : P { x with last := now }) : ∀ y ∈ (beginS l x idle now).1, P y := by
 have key : ∀ q : List Ses, (∀ y ∈ q, y ∈ l) → ∀ y ∈ (if mayS l = false ∨ timesB idle now = false ∨ mayB x = false ∨ x.isOpen = true then (l, (1 : Int)) else if findS l x.draw = -1 then if q.length = 4 then (l, 12) else (q ++ [{ x with last := now }], 0) else (l, 6)).1, P y := by
  intro q aw
  split
  ·exact h
  ·split
   ·split
    ·exact h
    ·intro y hy
     rcases List.mem_append.1 hy with hy | hy
     ·exact h y (aw y hy)
     ·rw [List.mem_singleton.1 hy]
      exact hx
   ·exact h
 refine key _ fun y hy => ?_
 split at hy
 ·exact (List.mem_filter.1 hy).1
 ·exact hy
theorem begin_len (l : List Ses) (x : Ses) (idle now : Int) : (beginS l x idle now).1.length ≤ l.length + 1 := by
 have key : ∀ q : List Ses, q.length ≤ l.length → (if mayS l = false ∨ timesB idle now = false ∨ mayB x = false ∨ x.isOpen = true then (l, (1 : Int)) else if findS l x.draw = -1 then if q.length = 4 then (l, 12) else (q ++ [{ x with last := now }], 0) else (l, 6)).1.length ≤ l.length + 1 := by
  intro q aw
  split
  ·exact Nat.le_succ _
  ·split
   ·split
    ·exact Nat.le_succ _
    ·show (q ++ [{ x with last := now }]).length ≤ l.length + 1
     rw [List.length_append, List.length_singleton]
     omega
   ·exact Nat.le_succ _
 refine key _ ?_
 split
 ·exact awake_len _ _ _
 ·exact Nat.le_refl _
theorem prove_len (l : List Ses) (d idle now : Int) : (proveS l d idle now).1.length ≤ l.length := by
 have ho : (oldS (fun _ => true) l d idle now).2.1.length ≤ l.length := by
  unfold oldS
  split
  ·exact Nat.le_refl _
  ·split
   ·exact Nat.le_refl _
   ·split
    ·exact Nat.le_refl _
    ·split
     ·exact (List.eraseIdx_sublist _ _).length_le
     ·exact Nat.le_refl _
 unfold proveS
 dsimp only
 split
 ·split
  ·exact Nat.le_refl _
  ·split
   ·exact Nat.le_refl _
   ·rw [List.length_set]
    exact Nat.le_refl _
 ·exact ho
structure Small (M : Mdl) (n k : Nat) : Prop where
 u : M.U.length < 1000000 ∧ ∀ u ∈ M.U, u.key.length < 1000000
 t : M.T.length ≤ n ∧ ∀ x ∈ M.T, wfS x
 k : M.K.length ≤ n + k ∧ ∀ t ∈ M.K, tsize t ≤ 1000000
 d : M.D.length ≤ n
theorem small_of {M : Mdl} {n k : Nat} (h : Small M n k) (hn : n + k < 1000000) : smallM M := ⟨⟨h.u.1, by have := h.t.1; omega, by have := h.k.1; omega, by have := h.d; omega⟩, h.u.2, h.k.2⟩
theorem small_more {M : Mdl} {n m k : Nat} (h : Small M n k) (hn : n ≤ m) : Small M m k := ⟨h.u, ⟨Nat.le_trans h.t.1 hn, h.t.2⟩, ⟨by have := h.k.1; omega, h.k.2⟩, Nat.le_trans h.d hn⟩
theorem small_T {M M' : Mdl} {n m k : Nat} (h : Small M n k) (hn : n ≤ m) (eU : M'.U = M.U) (eK : M'.K = M.K) (hD : M'.D.length ≤ m) (hl : M'.T.length ≤ m) (hT : ∀ x ∈ M'.T, wfS x) : Small M' m k :=
 ⟨eU ▸ h.u, ⟨hl, hT⟩, by rw [eK]; exact ⟨by have := h.k.1; omega, h.k.2⟩, hD⟩
theorem drop_len (l : List Ses) (d : Int) : (dropS l d).length ≤ l.length := by
 unfold dropS
 split
 ·exact Nat.le_refl _
 ·exact (List.eraseIdx_sublist _ _).length_le
theorem small_proved {M : Mdl} {a : Ac} {n k : Nat} (h : Small M n k) : Small (provedM M a).1 (n + 1) k := by
 have h1 := small_more h (Nat.le_succ n)
 unfold provedM
 split
 ·exact h1
 generalize M.T.getD (findS M.T a.F.sess).toNat zses = x
 unfold foundM
 split
 ·exact h1
 split
 ·exact h1
 split
 ·exact h1
 split
 ·exact small_T h (Nat.le_succ n) rfl rfl h1.d (Nat.le_trans (prove_len _ _ _ _) h1.t.1) (prove_all (fun _ _ hx => hx) h.t.2)
 have hl : (useS M.T x.draw a.F.count M.idle M.now).1.length ≤ n + 1 := Nat.le_trans (useS_len (r := (useS M.T x.draw a.F.count M.idle M.now).1) (e := (useS M.T x.draw a.F.count M.idle M.now).2) rfl) h1.t.1
 have hw : ∀ y ∈ (useS M.T x.draw a.F.count M.idle M.now).1, wfS y := use_all (fun _ _ _ hx => hx) h.t.2
 unfold ranM
 split
 ·exact small_T h (Nat.le_succ n) rfl rfl h1.d hl hw
 split
 ·exact small_T h (Nat.le_succ n) rfl rfl h1.d hl hw
 have hd : (M.D ++ [doneM x a.F]).length ≤ n + 1 := by
  rw [List.length_append, List.length_singleton]
  have := h.d
  omega
 split
 ·exact small_T h (Nat.le_succ n) rfl rfl hd (Nat.le_trans (drop_len _ _) hl) fun y hy => hw y (dropS_mem _ _ y hy)
 ·exact small_T h (Nat.le_succ n) rfl rfl hd hl hw
theorem small_step {M : Mdl} {a : Ac} {n k : Nat} (h : Small M n k) (hX : wfS a.X) (hF : wfF a.F) : Small (stepM M a).1 (n + 1) k := by
 have h1 := small_more h (Nat.le_succ n)
 unfold stepM
 split
 ·exact h1
 split
 ·unfold emitM
  split
  ·exact h1
  split
  ·exact h1
  rename_i hp
  split
  ·exact h1
  refine ⟨h1.u, h1.t, ⟨?_, fun t ht => ?_⟩, h1.d⟩
  ·show (M.K ++ [proofT a.X a.F]).length ≤ n + 1 + k
   rw [List.length_append, List.length_singleton]
   have := h.k.1
   omega
  ·rcases List.mem_append.1 ht with ht | ht
   ·exact h.k.2 t ht
   ·rw [List.mem_singleton.1 ht]
    have := (proof_small hX hF (by simpa using hp)).2.1
    omega
 split
 ·unfold giveM
  split
  ·exact h1
  split
  ·unfold helloM
   split
   ·exact h1
   split
   ·exact h1
   exact small_T h (Nat.le_succ n) rfl rfl h1.d (Nat.le_trans (begin_len _ _ _ _) (Nat.succ_le_succ h.t.1)) (begin_all h.t.2 ⟨hX.1, hF.2.1.1⟩)
  ·split
   ·exact small_proved h
   ·exact h1
 split
 ·exact small_T h (Nat.le_succ n) rfl rfl h1.d h1.t.1 h1.t.2
 split
 ·split
  ·exact h1
  ·exact small_T h (Nat.le_succ n) rfl rfl h1.d (Nat.zero_le _) (fun x hx => absurd hx (by simp))
 ·exact h1
def keyP (n : Int) : S24 := ⟨1, n, []⟩
def keysL (l : List Int) : List S24 := l.map keyP
theorem keysL_len (l : List Int) : (keysL l).length = l.length := List.length_map _
def startB (U : List Usr) (bad : List Int) (idle : Int) : Mdl := ⟨U, idle, [], 1, 0, keysL bad, []⟩
theorem at_int {w : World} {A : Option Addr} {n : Nat} {l : List Int} (h : (Kd.int .i64).C w A n l) (i : Nat) (hi : i < n) (x : Int) (hx : l[i]? = some x) : ∃ ad, A = some ad ∧ w.cell? (ad.add i) = some (.int .i64 x) := by
 obtain ⟨ad, c, e, _, hK, hc0⟩ := Kd.C_get h 0 (i : Int) (by omega) (by omega)
 have hK' : c = [.int .i64 (l.getD (i : Int).toNat 0)] := hK
 rw [Int.toNat_natCast, List.getD_eq_getElem?_getD, hx] at hK'
 refine ⟨ad, e, ?_⟩
 have := hc0 0 (.int .i64 x) (by rw [hK']; rfl)
 have e1 : (Kd.int .i64).sz = 1 := rfl
 rw [e1, Int.toNat_natCast, Nat.mul_one, Nat.add_zero] at this
 exact this
set_option maxHeartbeats 8000000 in
theorem startB_any (U : List Usr) (AU : Option Addr) (cU : Nat) (bad : List Int) (AB : Option Addr) (cB : Nat) (idle : Int) (w : World) (hB : (Kd.int .i64).C w AB bad.length bad) (hl : bad.length ≤ 1000) :
  Calls Tryz.prog 10 #[.slice AU U.length cU, .slice AB bad.length cB, .int .i64 idle] w fun e w' => ∃ vK, e = .returned (.agg (mca (startB U bad idle) (.slice AU U.length cU) (.slice none 0 0) vK (.slice none 0 0))) ∧ Kd.N k24 36 w' w.heap.size (fun k => w.heap.size ≤ k) vK (keysL bad) ∧ Below w.heap.size w w' := by
 have CB := aq_ hB
 have HL := aq_ hl
 have hml : bad.length ≤ 9223372036854775807 := hB.2.1
 clear hB hl
 go_enter Tryz.func10, Tryz.ntmps10
 go_upto_region 1 with ((with_reducible refine alloc_Mo rfl rfl ?_); intro g6 hg w1 hbox hb; have G6 := aq_ (show w.heap.size ≤ g6 by omega); have X6 := aq_ hbox; have HB := aq_ hb; have LB := aq_ hb.size; clear hg hbox hb)
 go_upto_region 2 with (first
  | ((with_reducible refine alloc_Mo rfl rfl ?_); intro g7 hg w2 hbox hb; have G7 := aq_ (show w.heap.size ≤ g7 by have := LB.out; omega); have NE := aq_ (show g6 ≠ g7 by have := blk_lt X6.out; omega); have X7 := aq_ hbox; replace X6 := aq_ (blk_below X6.out hb); replace HB := aq_ (HB.out.trans (Below.mono hb LB.out)); replace LB := aq_ (Nat.le_trans LB.out hb.size); clear hg hbox hb)
  | ((with_reducible refine gate_store2 42 (.tmp 7) (.tmp 11) rfl ?_); (refine store_Mo (.tmp 7) (.tmp 11) (M := startB U [] idle) (vU := .slice AU U.length cU) (vT := .slice none 0 0) (vK := .slice none 0 0) (vD := .slice none 0 0) rfl rfl rfl (by rfl) rfl rfl rfl rfl rfl rfl X7.out ?_); intro w3 hx1 hs1 hb1 hf1; replace X7 := aq_ hx1; replace HB := aq_ (hb1 _ _ G7.out HB.out); replace LB := aq_ (show w.heap.size ≤ w3.heap.size by rw [hs1]; exact LB.out); replace X6 := aq_ ((hf1 _ NE.out).trans X6.out); clear hx1 hs1 hb1 hf1))
 go_wp2
 go_loopw [8] (fun v8 wr => ∃ (i : Nat) (AK : Option Addr) (cK : Nat), i ≤ bad.length ∧ v8 = .int .i64 i ∧ Aside0 (Kd.N k24 36 wr w.heap.size (fun k => w.heap.size ≤ k ∧ k ≠ g6 ∧ k ≠ g7) (.slice AK (keysL (bad.take i)).length cK) (keysL (bad.take i))) ∧ Aside0 (wr.heap[g7]? = some (.cells (mca (startB U (bad.take i) idle) (.slice AU U.length cU) (.slice none 0 0) (.slice AK (keysL (bad.take i)).length cK) (.slice none 0 0)) 42 (0, 0))) ∧ Aside0 (wr.heap[g6]? = some (.cells zmca 42 (0, 0))) ∧ Aside0 (Below w.heap.size w wr) ∧ Aside0 (w.heap.size ≤ wr.heap.size)) (fun v8 _ => bad.length - (intOf v8).toNat)
 case atStart => exact ⟨0, none, 0, by omega, rfl, ⟨Kd.N_nil _ _ _ _ _⟩, X7, X6, HB, LB⟩
 case round =>
  clear X6 X7 HB LB
  obtain ⟨i, AK, cK, hi, rfl, NK, X7, X6, HB, LB⟩ := hrel
  by_cases hlt : i < bad.length
  ·have hd : decide ((i : Int) < bad.length) = true := by simp; omega
   obtain ⟨x, hx⟩ : ∃ x, bad[i]? = some x := ⟨_, List.getElem?_eq_getElem hlt⟩
   obtain ⟨ab, hA, x0⟩ := at_int (Kd.C_below CB.out HB.out) i hlt x hx
   subst hA
   have c5 : wr.cell? ⟨g7, 5, none⟩ = some (.slice AK (keysL (bad.take i)).length cK) := blk_cell X7.out 5
   go_wp2
   refine start_ (n := 11) (S := fun w' => w'.cell? ⟨g7, 5, none⟩ = some (.slice AK (keysL (bad.take i)).length cK) ∧ w'.cell? (ab.add i) = some (.int .i64 x)) (ds := [8, 10]) #[false, false, false, false, false, false, false, false, false, false, false] (by kernel_rfl) rfl rfl ⟨c5, x0⟩ (fun hHeld => ?_)
   refine pz_ 0 (some 18) (bt_ 11 1) ?_
   refine pz_ 2 (some 20) (bt_ 11 5) ?_
   refine pz_ 3 (some 21) (bt_ 11 13) ?_
   refine pz_ 4 (some 22) (bt_ 11 29) ?_
   refine tz_ 1 (some 19) (bt_ 11 31) hHeld ?_
   refine tz_ 5 (some 23) (bt_ 11 63) hHeld ?_
   refine gz_ 6 (some 24) (bt_ 11 127) Tryz.func15 #[.int .i64 x] fun K hK => ?_
   with_reducible refine (keyL_any x _).mono ?_
   rintro e wq ⟨rfl, hb_⟩
   refine ⟨_, rfl, ?_⟩
   have X6' := aq_ (blk_below (blk_drew X6.out) hb_)
   have X7' := aq_ (blk_below (blk_drew X7.out) hb_)
   have NK' := aq_ (Kd.N_below (Kd.N_below NK.out (below_drew (Below.refl _ _))) hb_)
   have HB' := aq_ ((below_drew HB.out).trans (Below.mono hb_ LB.out))
   have LB' := aq_ (Nat.le_trans (show w.heap.size ≤ wr.drew.heap.size from LB.out) (Below.size hb_))
   have c5_ := cell_bel (w := wr.drew) c5 hb_
   have x0_ := cell_bel (w := wr.drew) x0 hb_
   clear hb_
   refine hK.out _ _ ⟨c5_, x0_⟩ (fun hHeld => ?_)
   clear hK K
   refine nz_ ?_
   refine one_ (i := 7) (N := some 25) (bt_ 11 255) rfl rfl (by kernel_rfl) (by decide) (fun K hK => ?_)
   refine value_ (w1 := ?_) (v := ?_) (by rfl) rfl ?_ ?_
   rotate_left 2
   ·go_simp
    constructor
    ·rfl
    ·rfl
   refine hK.out _ _ ⟨(alloc_far c5_ _), (alloc_far x0_ _)⟩ (fun hHeld => ?_)
   clear hK K
   refine norm_ (a' := ?_) ?_ ?_
   rotate_left
   ·show Act.put _ (some 25) _ = _
    simp only [pt_]
    rfl
   refine last_ (i := 8) (N := some 26) (bt_ 11 511) rfl rfl (by kernel_rfl) (by decide) (fun K hK => ?_)
   refine Kd.N_append_step k24 (w0 := wq) (W := wq) w.heap.size (by rfl) (.tmp 19) (.tmp 25) 34 36 (.agg #[.int .i64 0, .int .i64 0, .slice none 0 0]) 40 (by rfl) Tryz.underlying34 info24 rfl (by decide) (by decide) (.slice AK (keysL (bad.take i)).length cK) (keysL (bad.take i)) (keyP x) [.int .i64 1, .int .i64 x, .slice none 0 0] (fun k => w.heap.size ≤ k ∧ k ≠ g6 ∧ k ≠ g7) (fun _ => False) rfl rfl (k24_mkF _ _ (keyP x) (A2 := none) (c2 := 0) (Nat.le_refl _) (Kd.F_nil _ _ _)) (fun _ h => h.elim) (fun k hk => ⟨Nat.le_trans LB'.out hk, fun e => by have := blk_lt X6'.out; omega, fun e => by have := blk_lt X7'.out; omega⟩) NK'.out (Below.refl _ _) LB'.out (by have := HL.out; rw [keysL_len, List.length_take]; omega) ?_
   intro v1 w5 hN hb hg hat
   have HB5 := aq_ (HB'.out.trans (Below.mono hb (Nat.le_refl _)))
   have LB5 := aq_ (Nat.le_trans LB'.out hb.size)
   have off : ∀ g, (g = g6 ∨ g = g7) → ∀ o, wq.heap[g]? = some o → w5.heap[g]? = some o := fun g hgg o ho => (hg.block g (blk_lt ho) (fun e => by have := NK'.out.1 g e.symm; rcases hgg with rfl | rfl <;> simp_all)).trans ho
   have X65 := aq_ (off g6 (.inl rfl) _ X6'.out)
   have X75 := aq_ (off g7 (.inr rfl) _ X7'.out)
   have c55 : w5.cell? ⟨g7, 5, none⟩ = some (.slice AK (keysL (bad.take i)).length cK) := blk_cell X75.out 5
   have d55 := blk_frozen X75.out 5
   obtain ⟨ax1, cx1, rfl, hcx, hCx⟩ := Kd.N_reads hN
   have NK5 := aq_ hN
   clear off hN hb hg hat hCx hcx
   refine hK.out _ _ ?_
   clear hK K
   refine norm_ (a' := ?_) ?_ ?_
   rotate_left
   ·show Act.put _ (some 26) _ = _
    simp only [pt_]
    rfl
   refine pz_ 9 (some 27) (bt_ 11 1023) ?_
   refine last_ (i := 10) (N := none) (bt_ 11 2047) rfl rfl (by kernel_rfl) (by decide) (fun K hK => ?_)
   refine skip_ (w1 := ?_) (by rfl) rfl ?_ ?_
   rotate_left
   ·go_simp
    rfl
   refine hK.out _ _ ?_
   clear hK K
   refine done_ (by kernel_rfl) ?_
   have ek := aq_ (show keysL (bad.take (i + 1)) = keysL (bad.take i) ++ [keyP x] by rw [take_snoc hx]; simp [keysL])
   obtain ⟨wf, hwf⟩ : ∃ wf, wf = w5.setCell ⟨g7, 5, none⟩ (.slice ax1 ((keysL (bad.take i)).length + 1) cx1) := ⟨_, rfl⟩
   have el := aq_ (show (keysL (bad.take (i + 1))).length = (keysL (bad.take i)).length + 1 by rw [ek.out, List.length_append]; rfl)
   have far : ∀ k, k ≠ g7 → wf.heap[k]? = w5.heap[k]? := fun k hk => by rw [hwf]; exact Below.heap_setCell _ _ _ _ hk
   have XF7 := aq_ (show wf.heap[g7]? = some (.cells (mca (startB U (bad.take (i + 1)) idle) (.slice AU U.length cU) (.slice none 0 0) (.slice ax1 (keysL (bad.take (i + 1))).length cx1) (.slice none 0 0)) 42 (0, 0)) by rw [hwf, el.out]; exact blk_put X75.out 5 _ rfl)
   have XF6 := aq_ ((far g6 NE.out).trans X65.out)
   have NF := aq_ (show Kd.N k24 36 wf w.heap.size (fun k => w.heap.size ≤ k ∧ k ≠ g6 ∧ k ≠ g7) (.slice ax1 (keysL (bad.take (i + 1))).length cx1) (keysL (bad.take (i + 1))) by rw [el.out, ek.out]; exact Kd.N_step (by have := NK5.out; rwa [List.length_append] at this) fun k hk _ => far k hk.2.2)
   have HF := aq_ (show Below w.heap.size w wf by rw [hwf]; exact HB5.out.setCell (p := ⟨g7, 5, none⟩) G7.out _)
   subst hwf
   go_wp2
   go_roundw
   case rel => exact ⟨i + 1, ax1, cx1, by omega, by go_num, NF, XF7, XF6, HF, ⟨HF.out.size⟩⟩
   case measure => simp [intOf]; omega
  ·obtain rfl : i = bad.length := by omega
   have hd : decide ((bad.length : Int) < bad.length) = false := by simp
   rw [List.take_length] at NK X7
   go_wp2_with (first
    | (with_reducible refine load_Mo (.tmp 7) rfl rfl rfl X7.out ?_)
    | ((with_reducible refine store_Mo (.tmp 6) (.tmp 28) rfl rfl rfl rfl rfl rfl rfl rfl rfl rfl X6.out ?_); intro wF hx1 hs1 hb1 hf1; have XF := aq_ hx1; have HF := aq_ (hb1 _ _ G6.out HB.out); have NF := aq_ (Kd.N_mono (Kd.N_step NK.out fun k hk _ => hf1 k hk.2.1) (fun k hk => hk.1)); clear hx1 hs1 hb1 hf1))
   refine bodyPost_ret (ret_7 rfl (g := g6) rfl XF.out) rfl ?_
   exact ⟨_, rfl, NF.out, HF.out⟩
theorem word_miss (parts : List S24) (n : Int) : missT parts (word n) = [] := by
 rw [missT_eq, if_pos (show (word n).f0 = 0 from rfl)]
theorem pair_miss {parts : List S24} {a b : S24} (ha : missT parts a = []) (hb : missT parts b = []) : missT parts ⟨2, 0, [a, b]⟩ = [] := by
 rw [missT_eq, if_neg (show ¬ (2 : Int) = 0 by decide)]
 split
 ·rfl
 ·rw [if_neg (show ¬ (2 : Int) = 1 by decide)]
  show missL parts [a, b] = []
  rw [missL, missL, missL, ha, hb]
  rfl
theorem key_miss (parts : List S24) (n : Int) : missT parts (keyP n) = if inL parts (keyP n) = true then [] else [keyP n] := by
 rw [missT_eq, if_neg (show ¬ (keyP n).f0 = 0 by show ¬ (1 : Int) = 0; decide), if_pos (show (keyP n).f0 = 1 from rfl)]
theorem tag_miss {parts : List S24} {a b : S24} (hb : missT parts b = []) : missT parts ⟨3, 0, [a, b]⟩ = if inL parts ⟨3, 0, [a, b]⟩ = true then [] else missT parts a := by
 rw [missT_eq, if_neg (show ¬ (3 : Int) = 0 by decide)]
 split
 ·rfl
 ·rw [if_neg (show ¬ (3 : Int) = 1 by decide)]
  show missL parts [a, b] = _
  rw [missL, missL, missL, hb, List.append_nil, List.append_nil]
def keyOrProof (t : S24) : Prop := (∃ n, t = keyP n) ∨ ∃ y g, wfS y ∧ wfF g ∧ isP y g = true ∧ t = proofT y g
theorem proofT_form {x : Ses} {f : Frm} (hw : wfS x) (hf : wfF f) (h : isP x f = true) : ∃ row, proofT x f = ⟨3, 0, [keyQ x.user x.epoch x.draw x.cn, row]⟩ ∧ ∀ parts, missT parts row = [] := by
 rcases (isP_parts h).2.2.2.2.2 with hk | hk
 ·exact ⟨_, proofT_2 hw h hk, fun parts => pair_miss (word_miss _ _) (word_miss _ _)⟩
 ·exact ⟨_, proofT_4 hw hf h hk, fun parts => pair_miss (word_miss _ _) (pair_miss (word_miss _ _) (pair_miss (word_miss _ _) (pair_miss (word_miss _ _) (word_miss _ _))))⟩
theorem parts_flat {k : List S24} (hk : ∀ t ∈ k, keyOrProof t) (x : S24) : inL (partsOf k) x = inL k x := by
 rw [Bool.eq_iff_iff, inL_iff, inL_iff, mem_parts, mem_reachL]
 constructor
 ·rintro ⟨t, ht, hx⟩
  have hne : t.f0 ≠ 2 := by
   rcases hk t ht with ⟨n, rfl⟩ | ⟨y, g, h1, h2, h3, rfl⟩
   ·show (1 : Int) ≠ 2
    decide
   ·rw [(proof_small h1 h2 h3).2.2]
    decide
  rw [reachT_eq, if_neg hne, List.mem_singleton] at hx
  rw [hx]
  exact ht
 ·exact fun hx => ⟨x, hx, reach_self x⟩
theorem key_not {k : List S24} (hk : ∀ t ∈ k, keyOrProof t) (u e d c : Int) : inL k (keyQ u e d c) = false := by
 rw [Bool.eq_false_iff, Ne, inL_iff]
 intro hm
 rcases hk _ hm with ⟨n, h⟩ | ⟨y, g, h1, h2, h3, h⟩
 ·have := congrArg S24.f0 h
  exact absurd this (by show ¬ (3 : Int) = 1; decide)
 ·obtain ⟨row, hr, _⟩ := proofT_form h1 h2 h3
  rw [hr] at h
  have h4 := congrArg S24.f2 h
  have h5 := congrArg (fun l : List S24 => l.head?.map S24.f0) h4
  exact absurd h5 (by show ¬ (some (1 : Int)) = some 3; decide)
theorem key_miss' {k : List S24} (hk : ∀ t ∈ k, keyOrProof t) (u e d c : Int) : missT (partsOf k) (keyQ u e d c) = if inL k (keyP u) = true then [] else [keyP u] := by
 have h := tag_miss (parts := partsOf k) (a := keyP u) (b := ⟨2, 0, [word e, ⟨2, 0, [word d, ⟨2, 0, [word c, word u]⟩]⟩]⟩) (pair_miss (word_miss _ _) (pair_miss (word_miss _ _) (pair_miss (word_miss _ _) (word_miss _ _))))
 have h2 : missT (partsOf k) (keyQ u e d c) = _ := h
 rw [h2]
 have hn : inL (partsOf k) (⟨3, 0, [keyP u, ⟨2, 0, [word e, ⟨2, 0, [word d, ⟨2, 0, [word c, word u]⟩]⟩]⟩]⟩ : S24) = false := by
  rw [parts_flat hk]
  exact key_not hk u e d c
 rw [hn, if_neg (by decide), key_miss, parts_flat hk]
theorem makes_proof {k : List S24} (hk : ∀ t ∈ k, keyOrProof t) (hm : mayL k = true) {x : Ses} {f : Frm} (hw : wfS x) (hf : wfF f) (h : isP x f = true) : makesB k (proofT x f) = (inL k (proofT x f) || inL k (keyP x.user)) := by
 obtain ⟨row, hr, hrow⟩ := proofT_form hw hf h
 unfold makesB
 rw [hm, (proof_small hw hf h).1, Bool.true_and, Bool.true_and]
 have h1 : missT (partsOf k) (proofT x f) = if inL k (proofT x f) = true then [] else if inL k (keyP x.user) = true then [] else [keyP x.user] := by
  rw [← parts_flat hk (proofT x f), hr, tag_miss (hrow _), key_miss' hk]
 rw [h1]
 cases inL k (proofT x f) with
 | true => simp
 | false =>
  cases inL k (keyP x.user) with
  | true => simp
  | false => simp
end Go.Proofs.YtdinphnljokigaaGreat.P
end
