/- What LawSymOnce rests on, part 32: several texts put together. -/
import Derived.Test.YtdinphnljokigaaGreatQ0
import Derived.ChangeArms
import Derived.Deep.Slices
import Derived.Test.YtdinphnljokigaaGreatQ3
import Derived.Test.YtdinphnljokigaaGreatQ11
import Derived.OpenShut
import Derived.Test.YtdinphnljokigaaGreatQ16
import Derived.Test.YtdinphnljokigaaGreatQ19
import Derived.Test.YtdinphnljokigaaGreatQ30
import Derived.Test.YtdinphnljokigaaGreatQ15
import Derived.Test.YtdinphnljokigaaGreatQ2
set_option linter.unusedVariables false
set_option linter.unnecessarySimpa false
set_option linter.unusedSimpArgs false
set_option maxRecDepth 100000
section
namespace Go.Proofs.YtdinphnljokigaaGreat.P
open Go.RowKit Go.Proofs.YtdinphnljokigaaGreatW.PrintWords
def OpensAt {α : Type} (P : Program) (n : Nat) (t : TypeId) (d : Kd α) (G : α → Prop) : Prop :=
 ∀ (H : Type) (enc : TypeId × Value → H) (w : World) (base : Nat) (spare : Nat → Bool) (held : Bool) (cs : List Value) (x : DataW H × List MemPlace),
  DataW.trod enc P w base spare held n t cs = some x → ∃ a, d.K w a cs ∧ G a
def Opens {α : Type} (P : Program) (t : TypeId) (d : Kd α) (G : α → Prop) : Prop := ∀ n, OpensAt P n t d G
section
variable {P : Program} {t e : TypeId}
theorem opens_int {k : IntKind} (ht : P.underlying t = some (.int k)) : Opens P t (Kd.int k) (fun n => (Lit.int k n).wf = true) := by
 intro n H enc w base spare held cs x h
 obtain ⟨m, rfl, rfl, hw⟩ := DataW.trod_int ht h
 exact ⟨m, rfl, hw⟩
theorem opens_bool (ht : P.underlying t = some .bool) : Opens P t Kd.bool (fun _ => True) := by
 intro n H enc w base spare held cs x h
 obtain ⟨m, rfl, rfl⟩ := DataW.trod_bool ht h
 exact ⟨m, rfl, trivial⟩
theorem add_add_' (a : Addr) (p i : Nat) : (a.add p).add i = a.add (p + i) := by
 unfold Addr.add
 by_cases hp : p = 0
 ·subst hp; simp
 ·by_cases hi : i = 0
  ·subst hi; simp
  ·simp [hp, hi, Nat.add_assoc]
theorem cells_some {w : World} {base : Nat} {a : Addr} {n : Nat} {cs : List Value} (h : w.cells? base a n = some cs) : cs.length = n ∧ ∀ i u, cs[i]? = some u → w.cell? (a.add i) = some u := by
 unfold World.cells? at h
 split at h
 ·have hl := mapM_some_length h
  simp at hl
  refine ⟨hl, fun i u hi => ?_⟩
  have hlt : i < n := by
   have := (List.getElem?_eq_some_iff.1 hi).1
   omega
  have := mapM_some_get h i i (by simp [hlt])
  rw [this]
  exact hi
 ·cases h
theorem opens_slice {α : Type} {d : Kd α} {G : α → Prop} (n : Nat) (ht : P.underlying t = some (.slice e)) (hc : P.cellsOf e = d.sz) (he : OpensAt P n e d G) :
  OpensAt P (n + 1) t (Kd.slice e d) (fun l => l.length ≤ maxLen ∧ ∀ x ∈ l, G x) := by
 intro H enc w base spare held cs x h
 rcases DataW.trod_slice ht h with ⟨rfl, rfl⟩ | ⟨a, len, cap, elems, rest, m, hm, rfl, rfl, hb, hl, hcap, hlen, hel, _, _⟩
 ·exact ⟨[], ⟨none, 0, rfl, Nat.le_refl _, ⟨rfl, by simp, fun h => absurd h (by simp)⟩⟩, by simp [maxLen], by simp⟩
 ·obtain rfl : n = m := by omega
  have key : ∀ i, i < len → ∃ p c, w.cells? base (a.add (i * P.cellsOf e)) (P.cellsOf e) = some c ∧ d.K w p c ∧ G p := by
   intro i hi
   have h1 := hel i hi
   rw [List.getElem?_eq_getElem (by omega)] at h1
   obtain ⟨c, hc1, hc2⟩ := Option.bind_eq_some_iff.1 h1
   obtain ⟨p, hp, hg⟩ := he H enc w base spare held c _ hc2
   exact ⟨p, c, hc1, hp, hg⟩
  have keyl : ∀ m, m ≤ len → ∃ l : List α, l.length = m ∧ (∀ x ∈ l, G x) ∧ ∀ j p, l[j]? = some p → ∃ c, w.cells? base (a.add (j * P.cellsOf e)) (P.cellsOf e) = some c ∧ d.K w p c := by
   intro m
   induction m with
   | zero => exact fun _ => ⟨[], rfl, by simp, fun j p hp => by simp at hp⟩
   | succ m ih =>
    intro hm
    obtain ⟨l, h1, h2, h3⟩ := ih (by omega)
    obtain ⟨p, c, hc1, hp, hg⟩ := key m (by omega)
    refine ⟨l ++ [p], by simp [h1], fun x hx => ?_, fun j q hq => ?_⟩
    ·rcases List.mem_append.1 hx with hx | hx
     ·exact h2 x hx
     ·rw [List.mem_singleton.1 hx]; exact hg
    ·rcases Nat.lt_or_ge j l.length with hj | hj
     ·rw [List.getElem?_append_left hj] at hq
      exact h3 j q hq
     ·rw [List.getElem?_append_right hj] at hq
      have hj0 : j - l.length = 0 := by
       have := (List.getElem?_eq_some_iff.1 hq).1
       simp at this
       omega
      rw [hj0] at hq
      simp at hq
      subst hq
      obtain rfl : j = m := by omega
      exact ⟨c, hc1, hp⟩
  obtain ⟨l, h1, h2, h3⟩ := keyl len (Nat.le_refl _)
  refine ⟨l, ⟨some a, cap, by rw [h1], by omega, ⟨rfl, by unfold maxLen at hcap; omega, fun _ => ⟨a, rfl, fun j p hp => ?_⟩⟩⟩, by omega, h2⟩
  obtain ⟨c, hc1, hk⟩ := h3 j p hp
  obtain ⟨hc2, hc3⟩ := cells_some hc1
  refine ⟨c, by rw [hc2, hc], hk, fun i u hu => ?_⟩
  have := hc3 i u hu
  rw [add_add_', hc] at this
  exact this
theorem opens_slice' {α : Type} {d : Kd α} {G : α → Prop} (ht : P.underlying t = some (.slice e)) (hc : P.cellsOf e = d.sz) (he : Opens P e d G) :
  Opens P t (Kd.slice e d) (fun l => l.length ≤ maxLen ∧ ∀ x ∈ l, G x) := by
 intro n
 cases n with
 | zero => intro H enc w base spare held cs x h; simp [DataW.trod] at h
 | succ n => exact opens_slice n ht hc (he n)
theorem pair_K {α β : Type} {a : Kd α} {b : Kd β} {w : World} {cs : List Value} {x : α} {y : β} (n : Nat) (h0 : a.K w x (cs.take n)) (h1 : b.K w y (cs.drop n)) : (Kd.pair a b).K w (x, y) cs :=
 ⟨_, _, (List.take_append_drop n cs).symm, h0, h1⟩
theorem opens_field {α : Type} {d : Kd α} {G : α → Prop} {H : Type} {enc : TypeId × Value → H} {w : World} {base : Nat} {spare : Nat → Bool} {held : Bool} {cs : List Value} {n i : Nat} {f : Field} {fs : Array Field} {xs : List (DataW H × List MemPlace)}
  (hxl : xs.length = fs.size) (hf : ∀ (i : Nat) (f : Field), fs[i]? = some f → DataW.trod enc P w base spare held n f.type ((cs.drop f.offset).take (P.cellsOf f.type)) = xs[i]?)
  (hi : fs[i]? = some f) (he : OpensAt P n f.type d G) : ∃ a, d.K w a ((cs.drop f.offset).take (P.cellsOf f.type)) ∧ G a := by
 have h := hf i f hi
 have hlt : i < xs.length := by
  rw [hxl]
  exact (Array.getElem?_eq_some_iff.1 hi).1
 rw [List.getElem?_eq_getElem hlt] at h
 exact he H enc w base spare held _ _ h
theorem opens_arg {α : Type} {d : Kd α} {G : α → Prop} (h : Opens P t d G) {H : Type} {enc : TypeId × Value → H} {w : World} {base : Nat} {spare : Nat → Bool} {held : Bool} {v : Value} {x : DataW H} {ps : List MemPlace}
  (ht : DataW.Trod enc P w base spare held t v x ps) : ∃ a, d.K w a v.cells.toList ∧ G a := by
 obtain ⟨n, hn⟩ := ht
 exact h n H enc w base spare held _ _ hn
end
end Go.Proofs.YtdinphnljokigaaGreat.P
end

section
namespace Go.Proofs.YtdinphnljokigaaGreat.P
open Go.RowKit Go.Lib Go.Proofs.YtdinphnljokigaaGreatW.PrintWords Go.Proofs.YtdinphnljokigaaGreatW.PrintLast Go.Proofs.YtdinphnljokigaaGreatW.PrintMore
def GS (x : Ses) : Prop := (Lit.int .i64 x.user).wf = true ∧ (Lit.int .i64 x.epoch).wf = true ∧ (Lit.int .u64 x.draw).wf = true ∧ (Lit.int .u64 x.cn).wf = true ∧ (Lit.int .u64 x.count).wf = true ∧ (Lit.int .i64 x.last).wf = true
theorem list_of_ones {cs : List Value} {n : Nat} (hl : cs.length = n) (h : ∀ i, i < n → ∃ m : Int, (cs.drop i).take 1 = [.int .u8 m]) : ∃ l : List Int, l.length = n ∧ cs = l.map (Value.int .u8) := by
 induction cs generalizing n with
 | nil => exact ⟨[], by simpa using hl, rfl⟩
 | cons c cs ih =>
  cases n with
  | zero => simp at hl
  | succ n =>
   obtain ⟨m, hm⟩ := h 0 (by omega)
   obtain ⟨l, h1, h2⟩ := ih (n := n) (by simpa using hl) (fun i hi => by
    obtain ⟨m, hm⟩ := h (i + 1) (by omega)
    exact ⟨m, by simpa using hm⟩)
   refine ⟨m :: l, by simp [h1], ?_⟩
   have : c = .int .u8 m := by simpa using hm
   rw [this, h2]
   rfl
theorem drop_one {cs : List Value} {i : Nat} {v : Value} (h : (cs.drop i).take 1 = [v]) : cs.drop i = v :: cs.drop (i + 1) := by
 have h1 := congrArg List.head? h
 cases hd : cs.drop i with
 | nil => rw [hd] at h; simp at h
 | cons c r =>
  rw [hd] at h
  have hc : c = v := by simpa using h
  have hr : cs.drop (i + 1) = r := by
   have := congrArg (fun z : List Value => z.drop 1) hd
   simpa [List.drop_drop] using this
  rw [hr, hc]
theorem openKey : ∀ (n : Nat) (H : Type) (enc : TypeId × Value → H) (w : World) (base : Nat) (spare : Nat → Bool) (held : Bool) (cs : List Value) (x : DataW H × List MemPlace),
  DataW.trod enc Tryz.prog w base spare held n 29 cs = some x → ∃ k : Key, cs = k.1.map (Value.int .u8) := by
 intro n H enc w base spare held cs x h
 obtain ⟨xs, m, _, _, hl, hxl, hf⟩ := DataW.trod_array Tryz.underlying29 h
 have e1 : Tryz.prog.cellsOf 29 = 32 := by kernel_rfl
 have e2 : Tryz.prog.cellsOf 5 = 1 := by kernel_rfl
 rw [e1] at hl
 obtain ⟨l, h1, h2⟩ := list_of_ones hl (fun i hi => by
  have hi2 := hf i hi
  rw [e2, Nat.mul_one, List.getElem?_eq_getElem (by omega)] at hi2
  obtain ⟨m, hm, _⟩ := DataW.trod_int Tryz.underlying5 hi2
  exact ⟨m, hm⟩)
 exact ⟨⟨l, h1⟩, h2⟩
theorem openS : Opens Tryz.prog 33 kS GS := by
 intro n H enc w base spare held cs x h
 obtain ⟨xs, m, rfl, rfl, hl, hxl, hf⟩ := DataW.trod_struct Tryz.underlying33 h
 have gi : ∀ (j : Nat) (f : Field) (k : IntKind), (Tryz.prog.underlying f.type = some (.int k)) → ([{ name := "User", type := 3, offset := 0, embedded := false, tag := "", pkgPath := "", byteOffset := 0 }] : List Field).length = 1 → True := fun _ _ _ _ _ => trivial
 clear gi
 obtain ⟨a0, K0, g0⟩ := opens_field hxl hf (i := 0) rfl ((opens_int (k := .i64) Tryz.underlying3) m)
 obtain ⟨a1, K1, g1⟩ := opens_field hxl hf (i := 1) rfl ((opens_int (k := .i64) Tryz.underlying3) m)
 obtain ⟨a2, K2, g2⟩ := opens_field hxl hf (i := 2) rfl ((opens_int (k := .u64) Tryz.underlying27) m)
 obtain ⟨a3, K3, g3⟩ := opens_field hxl hf (i := 3) rfl ((opens_int (k := .u64) Tryz.underlying27) m)
 obtain ⟨k4, K4⟩ : ∃ k : Key, (cs.drop 4).take (Tryz.prog.cellsOf 29) = k.1.map (Value.int .u8) := by
  have hq := hf 4 _ rfl
  have hlt : 4 < xs.length := by rw [hxl]; decide
  rw [List.getElem?_eq_getElem hlt] at hq
  exact openKey m H enc w base spare held _ _ hq
 obtain ⟨a5, K5, g5⟩ := opens_field hxl hf (i := 5) rfl ((opens_bool Tryz.underlying4) m)
 obtain ⟨a6, K6, g6⟩ := opens_field hxl hf (i := 6) rfl ((opens_int (k := .u64) Tryz.underlying27) m)
 obtain ⟨a7, K7, g7⟩ := opens_field hxl hf (i := 7) rfl ((opens_int (k := .i64) Tryz.underlying3) m)
 have e0 : Tryz.prog.cellsOf 33 = 39 := by kernel_rfl
 have e1 : Tryz.prog.cellsOf 3 = 1 := by kernel_rfl
 have e2 : Tryz.prog.cellsOf 27 = 1 := by kernel_rfl
 have e3 : Tryz.prog.cellsOf 4 = 1 := by kernel_rfl
 have e4 : Tryz.prog.cellsOf 29 = 32 := by kernel_rfl
 rw [e0] at hl
 have J0 : (cs.drop 0).take 1 = [.int .i64 a0] := by have q : (cs.drop 0).take (Tryz.prog.cellsOf 3) = _ := K0; rw [e1] at q; exact q
 have J1 : (cs.drop 1).take 1 = [.int .i64 a1] := by have q : (cs.drop 1).take (Tryz.prog.cellsOf 3) = _ := K1; rw [e1] at q; exact q
 have J2 : (cs.drop 2).take 1 = [.int .u64 a2] := by have q : (cs.drop 2).take (Tryz.prog.cellsOf 27) = _ := K2; rw [e2] at q; exact q
 have J3 : (cs.drop 3).take 1 = [.int .u64 a3] := by have q : (cs.drop 3).take (Tryz.prog.cellsOf 27) = _ := K3; rw [e2] at q; exact q
 have J5 : (cs.drop 36).take 1 = [.bool a5] := by have q : (cs.drop 36).take (Tryz.prog.cellsOf 4) = _ := K5; rw [e3] at q; exact q
 have J6 : (cs.drop 37).take 1 = [.int .u64 a6] := by have q : (cs.drop 37).take (Tryz.prog.cellsOf 27) = _ := K6; rw [e2] at q; exact q
 have J7 : (cs.drop 38).take 1 = [.int .i64 a7] := by have q : (cs.drop 38).take (Tryz.prog.cellsOf 3) = _ := K7; rw [e1] at q; exact q
 rw [e4] at K4
 refine ⟨⟨a0, a1, a2, a3, k4, a5, a6, a7⟩, ?_, g0, g1, g2, g3, g6, g7⟩
 show cs = scl _
 have st := fun (i : Nat) (v : Value) => @drop_one cs i v
 have s4 : cs.drop 4 = k4.1.map (Value.int .u8) ++ cs.drop 36 := by
  have h1 := (List.take_append_drop 32 (cs.drop 4)).symm
  rw [K4, List.drop_drop] at h1
  exact h1
 have s39 : cs.drop 39 = [] := List.drop_eq_nil_of_le (by omega)
 have h0 := st 0 _ J0
 rw [List.drop_zero, st 1 _ J1, st 2 _ J2, st 3 _ J3, s4, st 36 _ J5, st 37 _ J6, st 38 _ J7, s39] at h0
 exact h0
def kF : Kd Frm where
 sz := 40
 E := []
 K := fun _ x cs => cs = fcl x
 M := fun _ _ _ x cs => cs = fcl x
 K_len := fun h => by rw [h]; exact fcl_len _
 K_one := fun h u hu => by rw [h] at hu; exact fcl_one _ u hu
 K_below := fun _ h => h
 K_of_M := fun h => h
 M_mono := fun _ h => h
 M_bound := fun h => h
 M_move := fun _ h => h
 M_lower := fun _ h => h
def GF (x : Frm) : Prop := (Lit.int .i64 x.kind).wf = true ∧ (Lit.int .i64 x.user).wf = true ∧ (Lit.int .u64 x.sess).wf = true ∧ (Lit.int .u64 x.cn).wf = true ∧ (Lit.int .i64 x.epoch).wf = true ∧ (Lit.int .u64 x.count).wf = true ∧ (Lit.int .i64 x.cmd).wf = true ∧ (Lit.int .i64 x.arg).wf = true
theorem openF : Opens Tryz.prog 31 kF GF := by
 intro n H enc w base spare held cs x h
 obtain ⟨xs, m, rfl, rfl, hl, hxl, hf⟩ := DataW.trod_struct Tryz.underlying31 h
 obtain ⟨a0, K0, g0⟩ := opens_field hxl hf (i := 0) rfl ((opens_int (k := .i64) Tryz.underlying3) m)
 obtain ⟨a1, K1, g1⟩ := opens_field hxl hf (i := 1) rfl ((opens_int (k := .i64) Tryz.underlying3) m)
 obtain ⟨a2, K2, g2⟩ := opens_field hxl hf (i := 2) rfl ((opens_int (k := .u64) Tryz.underlying27) m)
 obtain ⟨a3, K3, g3⟩ := opens_field hxl hf (i := 3) rfl ((opens_int (k := .u64) Tryz.underlying27) m)
 obtain ⟨a4, K4, g4⟩ := opens_field hxl hf (i := 4) rfl ((opens_int (k := .i64) Tryz.underlying3) m)
 obtain ⟨a5, K5, g5⟩ := opens_field hxl hf (i := 5) rfl ((opens_int (k := .u64) Tryz.underlying27) m)
 obtain ⟨a6, K6, g6⟩ := opens_field hxl hf (i := 6) rfl ((opens_int (k := .i64) Tryz.underlying3) m)
 obtain ⟨a7, K7, g7⟩ := opens_field hxl hf (i := 7) rfl ((opens_int (k := .i64) Tryz.underlying3) m)
 obtain ⟨k8, K8⟩ : ∃ k : Key, (cs.drop 8).take (Tryz.prog.cellsOf 29) = k.1.map (Value.int .u8) := by
  have hq := hf 8 _ rfl
  have hlt : 8 < xs.length := by rw [hxl]; decide
  rw [List.getElem?_eq_getElem hlt] at hq
  exact openKey m H enc w base spare held _ _ hq
 have e0 : Tryz.prog.cellsOf 31 = 40 := by kernel_rfl
 have e1 : Tryz.prog.cellsOf 3 = 1 := by kernel_rfl
 have e2 : Tryz.prog.cellsOf 27 = 1 := by kernel_rfl
 have e4 : Tryz.prog.cellsOf 29 = 32 := by kernel_rfl
 rw [e0] at hl
 have J0 : (cs.drop 0).take 1 = [.int .i64 a0] := by have q : (cs.drop 0).take (Tryz.prog.cellsOf 3) = _ := K0; rw [e1] at q; exact q
 have J1 : (cs.drop 1).take 1 = [.int .i64 a1] := by have q : (cs.drop 1).take (Tryz.prog.cellsOf 3) = _ := K1; rw [e1] at q; exact q
 have J2 : (cs.drop 2).take 1 = [.int .u64 a2] := by have q : (cs.drop 2).take (Tryz.prog.cellsOf 27) = _ := K2; rw [e2] at q; exact q
 have J3 : (cs.drop 3).take 1 = [.int .u64 a3] := by have q : (cs.drop 3).take (Tryz.prog.cellsOf 27) = _ := K3; rw [e2] at q; exact q
 have J4 : (cs.drop 4).take 1 = [.int .i64 a4] := by have q : (cs.drop 4).take (Tryz.prog.cellsOf 3) = _ := K4; rw [e1] at q; exact q
 have J5 : (cs.drop 5).take 1 = [.int .u64 a5] := by have q : (cs.drop 5).take (Tryz.prog.cellsOf 27) = _ := K5; rw [e2] at q; exact q
 have J6 : (cs.drop 6).take 1 = [.int .i64 a6] := by have q : (cs.drop 6).take (Tryz.prog.cellsOf 3) = _ := K6; rw [e1] at q; exact q
 have J7 : (cs.drop 7).take 1 = [.int .i64 a7] := by have q : (cs.drop 7).take (Tryz.prog.cellsOf 3) = _ := K7; rw [e1] at q; exact q
 rw [e4] at K8
 refine ⟨⟨a0, a1, a2, a3, a4, a5, a6, a7, k8⟩, ?_, g0, g1, g2, g3, g4, g5, g6, g7⟩
 show cs = fcl _
 have st := fun (i : Nat) (v : Value) => @drop_one cs i v
 have s8 : cs.drop 8 = k8.1.map (Value.int .u8) ++ cs.drop 40 := by
  have h1 := (List.take_append_drop 32 (cs.drop 8)).symm
  rw [K8, List.drop_drop] at h1
  exact h1
 have s40 : cs.drop 40 = [] := List.drop_eq_nil_of_le (by omega)
 have h0 := st 0 _ J0
 rw [List.drop_zero, st 1 _ J1, st 2 _ J2, st 3 _ J3, st 4 _ J4, st 5 _ J5, st 6 _ J6, st 7 _ J7, s8, s40] at h0
 rw [h0]
 simp [fcl]
theorem wf_u {n : Int} (h : (Lit.int .u64 n).wf = true) : 0 ≤ n ∧ n < 18446744073709551616 := by
 have h' : IntKind.u64.min ≤ n ∧ n ≤ IntKind.u64.max := by simpa [Lit.wf] using h
 have e1 : IntKind.u64.min = 0 := by decide
 have e2 : IntKind.u64.max = 18446744073709551615 := by decide
 omega
def keyQ (u e d c : Int) : S24 := ⟨3, 0, [⟨1, u, []⟩, ⟨2, 0, [word e, ⟨2, 0, [word d, ⟨2, 0, [word c, word u]⟩]⟩]⟩]⟩
def openQ (k : S24) (s : Int) : S24 := ⟨3, 0, [k, ⟨2, 0, [word 2, word s]⟩]⟩
def cmdQ (k : S24) (s n c g : Int) : S24 := ⟨3, 0, [k, ⟨2, 0, [word 4, ⟨2, 0, [word s, ⟨2, 0, [word n, ⟨2, 0, [word c, word g]⟩]⟩]⟩]⟩]⟩
theorem keyT_at {x : Ses} (hw : wfS x) (h : hasS x = true) : keyT x = keyQ x.user x.epoch x.draw x.cn := by
 obtain ⟨⟨h1, h2⟩, ⟨h3, h4⟩, h5, h6⟩ := has_parts h
 obtain ⟨h7, h8⟩ := hw
 unfold keyT
 rw [if_pos h]
 have ho : okRow [x.epoch, x.draw, x.cn, x.user] = true := by
  simp [okRow]
  omega
 unfold tagT
 rw [rowR, if_pos ho]
 rfl
theorem isP_parts {x : Ses} {f : Frm} (h : isP x f = true) : hasS x = true ∧ plainF f = true ∧ f.tag = zkey ∧ f.sess = x.draw ∧ f.count < 4611686018427387904 ∧ (f.kind = 2 ∨ f.kind = 4) := by
 simp only [isP, okP, bareB, Bool.and_eq_true, Bool.or_eq_true, decide_eq_true_eq, beq_iff_eq] at h
 obtain ⟨⟨h1, ⟨h2, h3⟩, h4, h5⟩, h6⟩ := h
 exact ⟨h1, h2, h3, h4, h5, h6⟩
theorem plain_q {f : Frm} (h : plainF f = true) : (0 ≤ f.cmd ∧ f.cmd ≤ 255) ∧ (0 ≤ f.arg ∧ f.arg ≤ 65535) ∧ bareF f = f := by
 simp only [plainF, inB, Bool.and_eq_true, decide_eq_true_eq] at h
 obtain ⟨_, _, _, h1, h2, h3⟩ := h
 exact ⟨h1, h2, h3⟩
theorem proofT_2 {x : Ses} {f : Frm} (hw : wfS x) (h : isP x f = true) (hk : f.kind = 2) : proofT x f = openQ (keyQ x.user x.epoch x.draw x.cn) x.draw := by
 obtain ⟨h1, h2, h3, h4, h5, h6⟩ := isP_parts h
 unfold proofT
 rw [if_pos h, if_pos hk, keyT_at hw h1, hk, h4]
 have ho : okRow [2, x.draw] = true := by
  have := hw.1
  simp [okRow]
  omega
 unfold tagT
 rw [rowR, if_pos ho]
 rfl
theorem proofT_4 {x : Ses} {f : Frm} (hw : wfS x) (hf : wfF f) (h : isP x f = true) (hk : f.kind = 4) : proofT x f = cmdQ (keyQ x.user x.epoch x.draw x.cn) x.draw f.count f.cmd f.arg := by
 obtain ⟨h1, h2, h3, h4, h5, h6⟩ := isP_parts h
 obtain ⟨p1, p2, p3⟩ := plain_q h2
 unfold proofT
 rw [if_pos h, if_neg (by omega), keyT_at hw h1, hk, h4]
 have ho : okRow [4, x.draw, f.count, f.cmd, f.arg] = true := by
  have := hw.1
  have := hf.2.2.1
  simp [okRow]
  omega
 unfold tagT
 rw [rowR, if_pos ho]
 rfl
theorem proof_small {x : Ses} {f : Frm} (hw : wfS x) (hf : wfF f) (h : isP x f = true) : mayT (proofT x f) = true ∧ tsize (proofT x f) ≤ 19 ∧ (proofT x f).f0 = 3 := by
 obtain ⟨h1, h2, h3, h4, h5, h6⟩ := isP_parts h
 obtain ⟨p1, p2, p3⟩ := plain_q h2
 obtain ⟨⟨k1, k2⟩, ⟨k3, k4⟩, k5, k6⟩ := has_parts h1
 obtain ⟨k7, k8⟩ := hw
 have hc := hf.2.2.1
 rcases h6 with hk | hk
 ·rw [proofT_2 ⟨k7, k8⟩ h hk]
  refine ⟨?_, by simp [openQ, cmdQ, keyQ, word, tsize, lsize], rfl⟩
  simp [mayT, openQ, keyQ, okT, okL, nodeB, word, tsize, lsize, tdep, ldep]
  omega
 ·rw [proofT_4 ⟨k7, k8⟩ hf h hk]
  refine ⟨?_, by simp [openQ, cmdQ, keyQ, word, tsize, lsize], rfl⟩
  simp [mayT, cmdQ, keyQ, okT, okL, nodeB, word, tsize, lsize, tdep, ldep]
  omega
set_option maxHeartbeats 4000000 in
theorem key16_any (n : Int) (w : World) : Calls Tryz.prog 20 #[.int .u8 n] w fun e w' => ∃ v, e = .returned v ∧ Kd.R (Kd.int .u8) 5 w' w.heap.size (fun _ => True) v (List.replicate 16 n) ∧ Below w.heap.size w w' := by
 go_enter Tryz.func20, Tryz.ntmps20
 go_wp2
 go_loopw [3, 4] (fun v3 v4 wr => ∃ i : Nat, i ≤ 16 ∧ v4 = .int .i64 i ∧ Aside0 (Kd.R (Kd.int .u8) 5 wr w.heap.size (fun _ => True) v3 (List.replicate i n)) ∧ Aside0 (Below w.heap.size w wr)) (fun v3 v4 _ => 16 - (intOf v4).toNat)
 case atStart => exact ⟨0, by omega, rfl, ⟨Kd.R_nil _ _ _ _ _⟩, ⟨Below.refl _ _⟩⟩
 case round =>
  obtain ⟨i, hi, rfl, HR, HB⟩ := hrel
  by_cases hlt : i < 16
  ·have hd : decide ((i : Int) < 16) = true := by simp; omega
   go_wp2_with ((with_reducible refine gate_builtin (b := .append) (xs := #[.tmp 9, .tmp 11]) rfl ?_); at_builtin; go_loud (refine Kd.R_append (Kd.int .u8) (w0 := w) w.heap.size rfl (.tmp 9) (.tmp 11) 64 5 (.int .u8 0) 1 rfl Tryz.underlying64 info5 rfl (by decide) (by decide) u3 (List.replicate i n) n [.int .u8 n] (fun _ => True) (fun _ => False) rfl rfl rfl (fun _ h => h.elim) (fun _ _ => trivial) HR.out HB.out HB.out.size ?_ ?_); (· simp; omega); intro v1 w3 ho hb hg hat; have HR1 := aq_ ho; have HB1 := aq_ hb; clear ho hb hg hat)
   go_roundw
   case rel => exact ⟨i + 1, by omega, by simp, ⟨by rw [List.replicate_succ']; exact HR1.out⟩, HB1⟩
   case measure => simp [intOf]; omega
  ·obtain rfl : i = 16 := by omega
   have hd : decide (((16 : Nat) : Int) < 16) = false := by simp
   go_wp2
   go_ret
   exact ⟨_, rfl, HR.out, HB.out⟩
def startM (U : List Usr) (idle : Int) : Mdl := ⟨U, idle, [], 1, 0, [], []⟩
set_option maxHeartbeats 4000000 in
theorem start_nil (U : List Usr) (AU : Option Addr) (cU : Nat) (idle : Int) (w : World) : Calls Tryz.prog 10 #[.slice AU U.length cU, .slice none 0 0, .int .i64 idle] w fun e w' => e = .returned (.agg (mca (startM U idle) (.slice AU U.length cU) (.slice none 0 0) (.slice none 0 0) (.slice none 0 0))) ∧ Below w.heap.size w w' := by
 go_enter Tryz.func10, Tryz.ntmps10
 go_upto_region 1 with ((with_reducible refine alloc_Mo rfl rfl ?_); intro gr hgr w1 hbox hb; have G1 := aq_ (show w.heap.size ≤ gr by omega); have XR := aq_ hbox; have HB1 := aq_ hb; clear hgr hbox hb)
 go_upto_region 2 with (first
  | ((with_reducible refine alloc_Mo rfl rfl ?_); intro gm hgm w2 hbox hb; have G2 := aq_ (show w.heap.size ≤ gm by have := HB1.out.size; omega); have NE := aq_ (show gr ≠ gm by have := blk_lt XR.out; omega); have X2 := aq_ hbox; have XR2 := aq_ (blk_below XR.out hb); have HB2 := aq_ (HB1.out.trans (hb.mono HB1.out.size)); clear hgm hbox hb HB1 XR)
  | ((with_reducible refine gate_store2 42 (.tmp 7) (.tmp 11) rfl ?_); (refine store_Mo (.tmp 7) (.tmp 11) (M := startM U idle) (vU := .slice AU U.length cU) (vT := .slice none 0 0) (vK := .slice none 0 0) (vD := .slice none 0 0) rfl rfl rfl (by rfl) rfl rfl rfl rfl rfl rfl X2.out ?_); intro w3 hx1 hs1 hb1 hf1; have X3 := aq_ hx1; have HB3 := aq_ (hb1 _ _ G2.out HB2.out); have XR3 := aq_ ((hf1 _ NE.out).trans XR2.out); clear hx1 hs1 hb1 hf1 X2 HB2 XR2))
 go_wp2
 go_loopw [8] (fun v8 wr => v8 = .int .i64 0 ∧ Aside0 (wr.heap[gm]? = some (.cells (mca (startM U idle) (.slice AU U.length cU) (.slice none 0 0) (.slice none 0 0) (.slice none 0 0)) 42 (0, 0))) ∧ Aside0 (wr.heap[gr]? = some (.cells zmca 42 (0, 0))) ∧ Aside0 (Below w.heap.size w wr)) (fun v8 _ => 0)
 case atStart => exact ⟨rfl, X3, XR3, HB3⟩
 case round =>
  clear X3 XR3 HB3
  obtain ⟨rfl, X3, XR3, HB3⟩ := hrel
  go_wp2_with (first
   | (with_reducible refine load_Mo (.tmp 7) rfl rfl rfl X3.out ?_)
   | ((with_reducible refine store_Mo (.tmp 6) (.tmp 28) rfl rfl rfl rfl rfl rfl rfl rfl rfl rfl XR3.out ?_); intro wF hx1 hs1 hb1 hf1; have XF := aq_ hx1; have HF := aq_ (hb1 _ _ G1.out HB3.out); clear hx1 hs1 hb1 hf1))
  refine bodyPost_ret (ret_7 rfl (g := gr) rfl XF.out) rfl ?_
  exact ⟨rfl, HF.out⟩
theorem inj_draw : ∀ {l : List Ses}, (l.map Ses.draw).Nodup → ∀ {x y : Ses}, x ∈ l → y ∈ l → x.draw = y.draw → x = y
 | [], _, x, y, hx, _, _ => absurd hx (by simp)
 | z :: l, h, x, y, hx, hy, e => by
  rw [List.map_cons, List.nodup_cons] at h
  rcases List.mem_cons.1 hx with ex | hx1
  ·rcases List.mem_cons.1 hy with ey | hy1
   ·rw [ex, ey]
   ·exact absurd (by rw [← ex, e]; exact List.mem_map_of_mem hy1) h.1
  ·rcases List.mem_cons.1 hy with ey | hy1
   ·exact absurd (by rw [← ey, ← e]; exact List.mem_map_of_mem hx1) h.1
   ·exact inj_draw h.2 hx1 hy1 e
def SubT (r l : List Ses) : Prop := ∀ y ∈ r, ∃ z ∈ l, y.draw = z.draw ∧ z.count ≤ y.count
theorem subT_refl (l : List Ses) : SubT l l := fun y hy => ⟨y, hy, rfl, Int.le_refl _⟩
theorem subT_of {r l : List Ses} (h : ∀ y ∈ r, y ∈ l) : SubT r l := fun y hy => ⟨y, h y hy, rfl, Int.le_refl _⟩
theorem subT_erase (l : List Ses) (i : Nat) : SubT (l.eraseIdx i) l := subT_of fun y hy => (List.eraseIdx_sublist l i).subset hy
theorem subT_set {l : List Ses} {i : Nat} {x x' : Ses} (hx : l[i]? = some x) (hd : x'.draw = x.draw) (hc : x.count ≤ x'.count) : SubT (l.set i x') l := fun y hy => by
 rcases List.mem_or_eq_of_mem_set hy with hy | rfl
 ·exact ⟨y, hy, rfl, Int.le_refl _⟩
 ·exact ⟨x, List.mem_of_getElem? hx, hd, hc⟩
theorem oldS_sub (p : Ses → Bool) (l : List Ses) (d idle now : Int) : SubT (oldS p l d idle now).2.1 l := by
 unfold oldS
 split
 ·exact subT_refl l
 ·split
  ·exact subT_refl l
  ·split
   ·exact subT_refl l
   ·split
    ·exact subT_erase _ _
    ·exact subT_refl l
theorem proveS_sub (l : List Ses) (d idle now : Int) : SubT (proveS l d idle now).1 l := by
 have h := oldS_sub (fun _ => true) l d idle now
 unfold proveS
 dsimp only
 split
 ·split
  ·exact subT_refl l
  ·rename_i x hx
   split
   ·exact subT_refl l
   ·exact subT_set (x := x) hx rfl (Int.le_refl _)
 ·exact h
theorem useS_sub (l : List Ses) (d count idle now : Int) : SubT (useS l d count idle now).1 l := by
 obtain ⟨r, e, h, hc⟩ := useS_spec l d count idle now
 rw [h]
 rcases hc with ⟨_, rfl, _⟩ | ⟨_, _, ⟨_, rfl, _⟩ | ⟨i, x, _, hx, _, ⟨_, rfl, _⟩ | ⟨_, ⟨_, rfl, _⟩ | ⟨_, _, _, rfl⟩ | ⟨hlt, _, _, rfl⟩⟩⟩⟩
 ·exact subT_refl _
 ·exact subT_refl _
 ·exact subT_erase _ _
 ·exact subT_refl _
 ·exact subT_erase _ _
 ·exact subT_set hx rfl (by dsimp only; omega)
theorem useS_zero {l : List Ses} {d count idle now : Int} (h : (useS l d count idle now).2 = 0) : ∃ x ∈ l, x.draw = d ∧ x.count < count ∧ ∀ y ∈ (useS l d count idle now).1, y.draw = d → y.count = count := by
 obtain ⟨r, e, hu, hc⟩ := useS_spec l d count idle now
 rw [hu] at h ⊢
 obtain rfl : e = 0 := h
 rcases hc with ⟨he, _⟩ | ⟨hm, _, ⟨he, _⟩ | ⟨i, x, hf, hx, _, ⟨he, _⟩ | ⟨_, ⟨he, _⟩ | ⟨hlt, _, _, rfl⟩ | ⟨hlt, _, _, rfl⟩⟩⟩⟩
 ·exact absurd he (by decide)
 ·exact absurd he (by decide)
 ·exact absurd he (by decide)
 ·exact absurd he (by decide)
 all_goals
  have hmp := (mayS_iff l).1 hm
  have hxd : x.draw = d := by
   rcases findS_spec l d with ⟨h1, _⟩ | ⟨j, z, h1, h2, h3, _⟩
   ·omega
   ·obtain rfl : j = i := by omega
    rw [hx] at h2
    cases h2
    exact h3
  refine ⟨x, List.mem_of_getElem? hx, hxd, hlt, fun y hy hyd => ?_⟩
 ·have hn := (findS_none_iff _ _).1 (find_erase hmp hf)
  exact absurd hyd (hn y hy)
 ·have hnd : ((l.set i { { x with count := count } with last := now }).map Ses.draw).Nodup := (congrArg List.Nodup (set_map_draw (l := l) (i := i) (x := x) (x' := { { x with count := count } with last := now }) hx rfl)).mpr hmp.2.1
  have hlt : i < l.length := (List.getElem?_eq_some_iff.1 hx).1
  have hme : ({ { x with count := count } with last := now } : Ses) ∈ l.set i { { x with count := count } with last := now } := List.mem_of_getElem? (List.getElem?_set_self hlt)
  have := inj_draw hnd hy hme (by rw [hyd]; exact hxd.symm)
  rw [this]
theorem beginS_mem {l : List Ses} {x : Ses} {idle now : Int} : ∀ y ∈ (beginS l x idle now).1, y ∈ l ∨ y.draw = x.draw := by
 have key : ∀ q : List Ses, (∀ y ∈ q, y ∈ l) → ∀ y ∈ (if mayS l = false ∨ timesB idle now = false ∨ mayB x = false ∨ x.isOpen = true then (l, (1 : Int)) else if findS l x.draw = -1 then if q.length = 4 then (l, 12) else (q ++ [{ x with last := now }], 0) else (l, 6)).1, y ∈ l ∨ y.draw = x.draw := by
  intro q aw
  split
  ·exact fun y hy => .inl hy
  ·split
   ·split
    ·exact fun y hy => .inl hy
    ·intro y hy
     rcases List.mem_append.1 hy with hy | hy
     ·exact .inl (aw y hy)
     ·rw [List.mem_singleton.1 hy]
      exact .inr rfl
   ·exact fun y hy => .inl hy
 have aw : ∀ y ∈ (if l.length = 4 then awakeS l idle now else l), y ∈ l := by
  intro y hy
  split at hy
  ·exact (List.mem_filter.1 hy).1
  ·exact hy
 exact key _ aw
def beg (a : Ac) : Bool := (a.kind == 1) && (a.F.kind == 0)
def segs (S : List Int) (a : Ac) : List Int := if a.kind = 3 then [] else if beg a = true then S ++ [a.X.draw] else S
def clearB : List Int → List Ac → Bool
 | _, [] => true
 | S, a :: l => !(beg a && S.contains a.X.draw) && clearB (segs S a) l
def runF (M : Mdl) (l : List Ac) : Mdl := l.foldl (fun M a => (stepM M a).1) M
def apart (d e : Don) : Prop := d.epoch ≠ e.epoch ∨ d.draw ≠ e.draw ∨ d.count ≠ e.count
structure Inv (M : Mdl) (S : List Int) (n : Nat) : Prop where
 ep : 1 ≤ M.epoch ∧ M.epoch ≤ 1 + n
 t : ∀ x ∈ M.T, x.draw ∈ S
 d : ∀ d ∈ M.D, d.epoch ≤ M.epoch ∧ (d.epoch = M.epoch → d.draw ∈ S ∧ ∀ x ∈ M.T, x.draw = d.draw → d.count ≤ x.count)
theorem inv_more {M : Mdl} {S S' : List Int} {n m : Nat} (h : Inv M S n) (hs : ∀ x ∈ S, x ∈ S') (hn : n ≤ m) : Inv M S' m :=
 ⟨⟨h.ep.1, by have := h.ep.2; omega⟩, fun x hx => hs _ (h.t x hx), fun d hd => ⟨(h.d d hd).1, fun e => ⟨hs _ ((h.d d hd).2 e).1, ((h.d d hd).2 e).2⟩⟩⟩
theorem inv_sub {M M' : Mdl} {S : List Int} {n : Nat} (h : Inv M S n) (he : M'.epoch = M.epoch) (hD : M'.D = M.D) (hT : SubT M'.T M.T) : Inv M' S n := by
 refine ⟨by rw [he]; exact h.ep, fun x hx => ?_, fun d hd => ?_⟩
 ·obtain ⟨z, hz, e, _⟩ := hT x hx
  rw [e]
  exact h.t z hz
 ·rw [hD] at hd
  obtain ⟨h1, h2⟩ := h.d d hd
  rw [he]
  refine ⟨h1, fun e => ⟨(h2 e).1, fun x hx hxd => ?_⟩⟩
  obtain ⟨z, hz, e1, e2⟩ := hT x hx
  exact Int.le_trans ((h2 e).2 z hz (e1 ▸ hxd)) e2
theorem inv_tick {M M' : Mdl} {S : List Int} {n : Nat} (h : Inv M S n) (he : M'.epoch = M.epoch) (hD : M'.D = M.D) (hT : M'.T = M.T) : Inv M' S n := inv_sub h he hD (hT ▸ subT_refl _)
theorem may_T {M : Mdl} (h : mayM M = true) : (M.T.map Ses.draw).Nodup ∧ ∀ x ∈ M.T, x.epoch = M.epoch := by
 simp only [mayM, Bool.and_eq_true] at h
 obtain ⟨_, _, h3, h4, _⟩ := h
 refine ⟨((mayS_iff _).1 h3).2.1, fun x hx => ?_⟩
 simp only [Bool.not_eq_true', List.any_eq_false] at h4
 have := h4 x hx
 simp only [mineB, Bool.not_eq_true', Bool.not_eq_false, Bool.and_eq_true, beq_iff_eq] at this
 exact this.2.1
theorem inv_done {M : Mdl} {S : List Int} {n : Nat} (hm : mayM M = true) (h : Inv M S n) (hd : M.D.Pairwise apart) {x : Ses} {f : Frm} (hx : x ∈ M.T) {T : List Ses} (hT : SubT T M.T) (hlt : x.count < f.count) (hc : ∀ y ∈ T, y.draw = x.draw → y.count = f.count) (T' : List Ses) (hT' : ∀ y ∈ T', y ∈ T) :
  Inv { M with T := T', D := M.D ++ [doneM x f] } S n ∧ (M.D ++ [doneM x f]).Pairwise apart := by
 obtain ⟨hnd, hep⟩ := may_T hm
 constructor
 ·refine ⟨h.ep, fun y hy => ?_, fun d hd => ?_⟩
  ·obtain ⟨z, hz, e, _⟩ := hT y (hT' y hy)
   rw [e]
   exact h.t z hz
  ·rcases List.mem_append.1 hd with hd | hd
   ·obtain ⟨h1, h2⟩ := h.d d hd
    refine ⟨h1, fun e => ⟨(h2 e).1, fun y hy hyd => ?_⟩⟩
    obtain ⟨z, hz, e1, e2⟩ := hT y (hT' y hy)
    exact Int.le_trans ((h2 e).2 z hz (e1 ▸ hyd)) e2
   ·rw [List.mem_singleton.1 hd]
    refine ⟨Int.le_of_eq (hep x hx), fun _ => ⟨h.t x hx, fun y hy hyd => ?_⟩⟩
    exact Int.le_of_eq (hc y (hT' y hy) hyd).symm
 ·rw [List.pairwise_append]
  refine ⟨hd, List.pairwise_singleton _ _, fun d hd' e he => ?_⟩
  rw [List.mem_singleton.1 he]
  by_cases e1 : d.epoch = x.epoch
  ·by_cases e2 : d.draw = x.draw
   ·have := ((h.d d hd').2 (e1.trans (hep x hx))).2 x hx e2.symm
    exact .inr (.inr (show d.count ≠ f.count by omega))
   ·exact .inr (.inl e2)
  ·exact .inl e1
theorem dropS_mem (l : List Ses) (d : Int) : ∀ y ∈ dropS l d, y ∈ l := by
 unfold dropS
 split
 ·exact fun _ h => h
 ·exact fun y hy => (List.eraseIdx_sublist _ _).subset hy
theorem inv_proved {M : Mdl} {S : List Int} {n : Nat} (hm : mayM M = true) (h : Inv M S n) (hd : M.D.Pairwise apart) (a : Ac) : Inv (provedM M a).1 S n ∧ (provedM M a).1.D.Pairwise apart := by
 unfold provedM
 split
 ·exact ⟨h, hd⟩
 rename_i hne
 rcases findS_spec M.T a.F.sess with ⟨h1, _⟩ | ⟨i, x, h1, h2, h3, _⟩
 ·exact absurd h1 hne
 have hx : M.T.getD (findS M.T a.F.sess).toNat zses = x := by
  rw [h1, Int.toNat_natCast, List.getD_eq_getElem?_getD, h2]
  rfl
 have hxm : x ∈ M.T := List.mem_of_getElem? h2
 rw [hx]
 unfold foundM
 split
 ·exact ⟨h, hd⟩
 split
 ·exact ⟨h, hd⟩
 split
 ·exact ⟨h, hd⟩
 split
 ·exact ⟨inv_sub h rfl rfl (proveS_sub _ _ _ _), hd⟩
 unfold ranM
 have hsub := useS_sub M.T x.draw a.F.count M.idle M.now
 split
 ·exact ⟨inv_sub h rfl rfl hsub, hd⟩
 rename_i he
 split
 ·exact ⟨inv_sub h rfl rfl hsub, hd⟩
 have he0 : (useS M.T x.draw a.F.count M.idle M.now).2 = 0 := Decidable.of_not_not he
 obtain ⟨z, hz, hzd, hlt, hc⟩ := useS_zero he0
 obtain rfl : z = x := inj_draw (may_T hm).1 hz hxm hzd
 split
 ·exact inv_done hm h hd hxm hsub hlt hc _ (dropS_mem _ _)
 ·exact inv_done hm h hd hxm hsub hlt hc _ (fun _ h => h)
theorem segs_mem {S : List Int} {a : Ac} (hk : a.kind ≠ 3) : ∀ x ∈ S, x ∈ segs S a := by
 intro x hx
 unfold segs
 rw [if_neg hk]
 split
 ·exact List.mem_append_left _ hx
 ·exact hx
theorem inv_step {M : Mdl} {S : List Int} {n : Nat} (hm : mayM M = true) (hn : n < 1000000) (h : Inv M S n) (hd : M.D.Pairwise apart) (a : Ac) (hb : (beg a && S.contains a.X.draw) = false) : Inv (stepM M a).1 (segs S a) (n + 1) ∧ (stepM M a).1.D.Pairwise apart := by
 unfold stepM
 rw [if_neg (by rw [hm]; decide)]
 by_cases k0 : a.kind = 0
 ·rw [if_pos k0]
  have hs := inv_more h (segs_mem (S := S) (a := a) (by omega)) (Nat.le_succ n)
  unfold emitM
  split
  ·exact ⟨hs, hd⟩
  split
  ·exact ⟨hs, hd⟩
  split
  ·exact ⟨hs, hd⟩
  exact ⟨inv_tick hs rfl rfl rfl, hd⟩
 rw [if_neg k0]
 by_cases k1 : a.kind = 1
 ·rw [if_pos k1]
  have hs := inv_more h (segs_mem (S := S) (a := a) (by omega)) (Nat.le_succ n)
  unfold giveM
  split
  ·exact ⟨hs, hd⟩
  split
  ·rename_i hk
   have hbeg : beg a = true := by simp [beg, k1, hk]
   have hnS : a.X.draw ∉ S := by
    rw [hbeg, Bool.true_and] at hb
    intro hc
    rw [List.contains_iff_mem.2 hc] at hb
    exact absurd hb (by decide)
   have hseg : segs S a = S ++ [a.X.draw] := by
    unfold segs
    rw [if_neg (by omega), if_pos hbeg]
   unfold helloM
   split
   ·exact ⟨hs, hd⟩
   split
   ·exact ⟨hs, hd⟩
   refine ⟨⟨hs.ep, fun y hy => ?_, fun d hd' => ?_⟩, hd⟩
   ·rcases beginS_mem y hy with hy | hy
    ·exact hs.t y hy
    ·rw [hy, hseg]
     exact List.mem_append_right _ (List.mem_singleton.2 rfl)
   ·obtain ⟨h1, h2⟩ := h.d d hd'
    refine ⟨h1, fun e => ⟨segs_mem (by omega) _ (h2 e).1, fun y hy hyd => ?_⟩⟩
    rcases beginS_mem y hy with hy | hy
    ·exact (h2 e).2 y hy hyd
    ·exact absurd ((h2 e).1) (by rw [← hyd, hy]; exact hnS)
  ·split
   ·obtain ⟨i1, i2⟩ := inv_proved hm h hd a
    exact ⟨inv_more i1 (segs_mem (by omega)) (Nat.le_succ n), i2⟩
   ·exact ⟨hs, hd⟩
 rw [if_neg k1]
 by_cases k2 : a.kind = 2
 ·rw [if_pos k2]
  exact ⟨inv_tick (inv_more h (segs_mem (by omega)) (Nat.le_succ n)) rfl rfl rfl, hd⟩
 rw [if_neg k2]
 by_cases k3 : a.kind = 3
 ·rw [if_pos k3, if_neg (by have := h.ep; omega)]
  refine ⟨⟨?_, ?_, ?_⟩, hd⟩
  ·have := h.ep
   dsimp only
   omega
  ·intro x hx
   exact absurd hx (by simp)
  ·intro d hd'
   have := (h.d d hd').1
   dsimp only
   exact ⟨by omega, fun e => by omega⟩
 ·rw [if_neg k3]
  exact ⟨inv_more h (segs_mem k3) (Nat.le_succ n), hd⟩
theorem stepM_no {M : Mdl} (h : mayM M = false) (a : Ac) : (stepM M a).1 = M := by
 unfold stepM
 rw [if_pos h]
theorem runF_no {M : Mdl} (h : mayM M = false) : ∀ l, runF M l = M
 | [] => rfl
 | a :: l => by
  show runF (stepM M a).1 l = M
  rw [stepM_no h, runF_no h l]
theorem runF_apart : ∀ (l : List Ac) (M : Mdl) (S : List Int) (n : Nat), n + l.length < 1000000 → Inv M S n → M.D.Pairwise apart → clearB S l = true → (runF M l).D.Pairwise apart
 | [], M, S, n, hn, h, hd, hc => hd
 | a :: l, M, S, n, hn, h, hd, hc => by
  cases hm : mayM M with
  | false => rw [runF_no hm]; exact hd
  | true =>
   rw [clearB, Bool.and_eq_true, Bool.not_eq_true'] at hc
   rw [List.length_cons] at hn
   obtain ⟨i1, i2⟩ := inv_step hm (by omega) h hd a hc.1
   exact runF_apart l _ _ _ (by omega) i1 i2 hc.2
theorem start_inv (U : List Usr) (idle : Int) : Inv (startM U idle) [] 0 := ⟨⟨by show (1 : Int) ≤ 1; decide, by show (1 : Int) ≤ 1 + 0; decide⟩, fun x hx => absurd hx (by simp [startM]), fun d hd => absurd hd (by simp [startM])⟩
theorem pair_get {α : Type} {R : α → α → Prop} (hR : ∀ a b, R a b → R b a) : ∀ {l : List α}, l.Pairwise R → ∀ {i k : Nat} {x y : α}, l[i]? = some x → l[k]? = some y → i ≠ k → R x y := by
 intro l h i k x y hx hy hne
 obtain ⟨h1, e1⟩ := List.getElem?_eq_some_iff.1 hx
 obtain ⟨h2, e2⟩ := List.getElem?_eq_some_iff.1 hy
 subst e1 e2
 rw [List.pairwise_iff_getElem] at h
 rcases Nat.lt_or_gt_of_ne hne with hl | hl
 ·exact h i k h1 h2 hl
 ·exact hR _ _ (h k i h2 h1 hl)
end Go.Proofs.YtdinphnljokigaaGreat.P
end
