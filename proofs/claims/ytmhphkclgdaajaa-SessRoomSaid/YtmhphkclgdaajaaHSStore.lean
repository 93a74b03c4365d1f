/- A field of a session of an own row is stored. -/
import Derived.Test.YtmhphkclgdaajaaHSOld
namespace Go.Proofs.Ytmhphkclgdaajaa.P
open Go.RowKit Go.Lib Go.Proofs.YtmhphkclgdaajaaW.PrintWords Go.Proofs.YtmhphkclgdaajaaW.PrintLast Go.Proofs.YtmhphkclgdaajaaW.PrintMore
set_option linter.unusedVariables false
set_option linter.unusedSimpArgs false
theorem scl_open (x : Ses) (b : Bool) : scl { x with isOpen := b } = (scl x).set 36 (.bool b) := by
  have hl : (x.key.1.map (Value.int .u8)).length = 32 := by rw [List.length_map, x.key.2]
  show _ :: _ :: _ :: _ :: (x.key.1.map (Value.int .u8) ++ [Value.bool b, Value.int .u64 x.count, Value.int .i64 x.last]) = _ :: _ :: _ :: _ :: ((x.key.1.map (Value.int .u8) ++ [Value.bool x.isOpen, Value.int .u64 x.count, Value.int .i64 x.last]).set 32 (.bool b))
  rw [List.set_append_right _ _ (by omega), hl]
  rfl
theorem scl_count (x : Ses) (n : Int) : scl { x with count := n } = (scl x).set 37 (.int .u64 n) := by
  have hl : (x.key.1.map (Value.int .u8)).length = 32 := by rw [List.length_map, x.key.2]
  show _ :: _ :: _ :: _ :: (x.key.1.map (Value.int .u8) ++ [Value.bool x.isOpen, Value.int .u64 n, Value.int .i64 x.last]) = _ :: _ :: _ :: _ :: ((x.key.1.map (Value.int .u8) ++ [Value.bool x.isOpen, Value.int .u64 x.count, Value.int .i64 x.last]).set 33 (.int .u64 n))
  rw [List.set_append_right _ _ (by omega), hl]
  rfl
theorem scl_last (x : Ses) (n : Int) : scl { x with last := n } = (scl x).set 38 (.int .i64 n) := by
  have hl : (x.key.1.map (Value.int .u8)).length = 32 := by rw [List.length_map, x.key.2]
  show _ :: _ :: _ :: _ :: (x.key.1.map (Value.int .u8) ++ [Value.bool x.isOpen, Value.int .u64 x.count, Value.int .i64 n]) = _ :: _ :: _ :: _ :: ((x.key.1.map (Value.int .u8) ++ [Value.bool x.isOpen, Value.int .u64 x.count, Value.int .i64 x.last]).set 34 (.int .i64 n))
  rw [List.set_append_right _ _ (by omega), hl]
  rfl
theorem set_parts (l : List Value) (j : Nat) (u : Value) (h : j < l.length) : l.take j ++ [u] ++ l.drop (j + [u].length) = l.set j u := by
  rw [List.set_eq_take_append_cons_drop, if_pos h]
  simp
section
variable {ops : Array Oper} {rest : List Oper} {o : Oper} {a : Act} {Q : Exit → Act → World → Prop}
theorem gate_store2 {W : World} (t : TypeId) (p v : Operand) (_ho : o.op = .store t p v) (h : wpList Try.prog ops Q (o :: rest) a W) : wpList Try.prog ops Q (o :: rest) a W := h
theorem store_F {W w0 : World} {base g n cap : Nat} {ok : Nat → Prop} {xs : List Ses} (ty : TypeId) (p x : Operand) (ho : o.op = .store ty p x) (hN : o.dst = none) (hgd : o.guard = none) (hty : (Try.prog.info? ty).map (·.size) = some 1)
    (i j o' : Nat) (y y' : Ses) (u : Value) (haddr : a.eval p = .pointer (some ⟨g, o', none⟩)) (hoff : o' = i * 39 + j) (hx : a.eval x = u) (hu : u.cells.toList = [u]) (hu1 : u.oneCell' = true)
    (HO : kS.R 35 W base ok (.slice (some ⟨g, 0, none⟩) n cap) xs) (hi : i < n) (hxs : xs[i]? = some y) (hj : j < 39) (hy : scl y' = (scl y).set j u) (HB : Below base w0 W)
    (h : ∀ w1, kS.R 35 w1 base ok (.slice (some ⟨g, 0, none⟩) n cap) (xs.set i y') → Below base w0 w1 → wpList Try.prog ops Q rest a w1) : wpList Try.prog ops Q (o :: rest) a W := by
  obtain ⟨c, hcl, hcM, hcc, _⟩ := Kd.R_elem HO zses (i : Int) (by omega) (by omega)
  have hc : c = scl y := by
    have hc' : c = scl (xs.getD (i : Int).toNat zses) := hcM
    rw [Int.toNat_natCast, List.getD_eq_getElem?_getD, hxs] at hc'
    exact hc'
  subst hc
  refine Kd.R_store kS (w0 := w0) base hN hgd ty p x ho 35 (i : Int) j xs y' u [u] (scl y) ok (fun _ => False) haddr (by rw [hoff]; rfl) hx hu hty (by simpa using hu1) HO (by omega) (by omega) hcl hcc (by show j + 1 ≤ 39; omega) ?_ (fun _ h => h.elim) HB ?_
  · show _ = scl y'
    rw [set_parts _ _ _ (by rw [scl_len]; exact hj), hy]
  · intro w1 h1 h2 _
    exact h w1 (by simpa using h1) h2
end
/-- A field of a session of an own row. -/
theorem own_at {W : World} {base g n cap : Nat} {ok : Nat → Prop} {xs : List Ses} (HO : kS.R 35 W base ok (.slice (some ⟨g, 0, none⟩) n cap) xs) {i : Nat} (hi : i < n) {y : Ses} (hx : xs[i]? = some y) :
    W.cell? ⟨g, i * 39 + 36, none⟩ = some (.bool y.isOpen) ∧ W.cell? ⟨g, i * 39 + 37, none⟩ = some (.int .u64 y.count) ∧ W.frozen? ⟨g, i * 39 + 36, none⟩ = false ∧ W.frozen? ⟨g, i * 39 + 37, none⟩ = false ∧ W.frozen? ⟨g, i * 39 + 38, none⟩ = false := by
  obtain ⟨c, hcl, hcM, hcc, hfr⟩ := Kd.R_elem HO zses (i : Int) (by omega) (by omega)
  have hc : c = scl y := by
    have hc' : c = scl (xs.getD (i : Int).toNat zses) := hcM
    rw [Int.toNat_natCast, List.getD_eq_getElem?_getD, hx] at hc'
    exact hc'
  subst hc
  obtain ⟨h0, h1, h2, h3, h4, h5, h6⟩ := scl_at y
  exact ⟨hcc 36 _ h4, hcc 37 _ h5, hfr 36, hfr 37, hfr 38⟩
end Go.Proofs.Ytmhphkclgdaajaa.P
