/- What LawSymAgree rests on, part 9: several texts put together. -/
import Derived.Test.YtdinphnljokigaaGreatS8
import Derived.Test.YtdinphnljokigaaGreatS3
set_option linter.unusedVariables false
set_option linter.unnecessarySimpa false
set_option linter.unusedSimpArgs false
set_option maxRecDepth 100000
section
namespace Go.Proofs.YtdinphnljokigaaGreat.P
open Go.RowKit Go.Lib Go.Proofs.YtdinphnljokigaaGreatW.PrintWords Go.Proofs.YtdinphnljokigaaGreatW.PrintLast Go.Proofs.YtdinphnljokigaaGreatW.PrintMore
theorem scl_open (x : Ses) (b : Bool) : scl { x with isOpen := b } = (scl x).set 36 (.bool b) := by
 have hl : (x.key.1.map (Value.int .u8)).length = 32 := by rw [List.length_map, x.key.2]
 show _ :: _ :: _ :: _ :: (x.key.1.map (Value.int .u8) ++ [Value.bool b, Value.int .u64 x.count, Value.int .i64 x.last]) = _ :: _ :: _ :: _ :: ((x.key.1.map (Value.int .u8) ++ [Value.bool x.isOpen, Value.int .u64 x.count, Value.int .i64 x.last]).set 32 (.bool b))
 rw [List.set_append_right _ _ (by omega), hl]
 rfl
theorem scl_count (x : Ses) (n : Int) : scl { x with count := n } = (scl x).set 37 (.int .u64 n) := by
 have hl : (x.key.1.map (Value.int .u8)).length = 32 := by rw [List.length_map, x.key.2]
 show _ :: _ :: _ :: _ :: (x.key.1.map (Value.int .u8) ++ [Value.bool x.isOpen, Value.int .u64 n, Value.int .i64 x.last]) = _ :: _ :: _ :: _ :: ((x.key.1.map (Value.int .u8) ++ [Value.bool x.isOpen, Value.int .u64 x.count, Value.int .i64 x.last]).set 33 (.int .u64 n))
 rw [List.set_append_right _ _ (by omega), hl]
 rfl
theorem scl_last (x : Ses) (n : Int) : scl { x with last := n } = (scl x).set 38 (.int .i64 n) := by
 have hl : (x.key.1.map (Value.int .u8)).length = 32 := by rw [List.length_map, x.key.2]
 show _ :: _ :: _ :: _ :: (x.key.1.map (Value.int .u8) ++ [Value.bool x.isOpen, Value.int .u64 x.count, Value.int .i64 n]) = _ :: _ :: _ :: _ :: ((x.key.1.map (Value.int .u8) ++ [Value.bool x.isOpen, Value.int .u64 x.count, Value.int .i64 x.last]).set 34 (.int .i64 n))
 rw [List.set_append_right _ _ (by omega), hl]
 rfl
theorem set_parts (l : List Value) (j : Nat) (u : Value) (h : j < l.length) : l.take j ++ [u] ++ l.drop (j + [u].length) = l.set j u := by
 rw [List.set_eq_take_append_cons_drop, if_pos h]
 simp
section
variable {ops : Array Oper} {rest : List Oper} {o : Oper} {a : Act} {Q : Exit → Act → World → Prop}
theorem gate_store2 {W : World} (t : TypeId) (p v : Operand) (_ho : o.op = .store t p v) (h : wpList Tryz.prog ops Q (o :: rest) a W) : wpList Tryz.prog ops Q (o :: rest) a W := h
theorem store_F {W w0 : World} {base g n cap : Nat} {ok : Nat → Prop} {xs : List Ses} (ty : TypeId) (p x : Operand) (ho : o.op = .store ty p x) (hN : o.dst = none) (hgd : o.guard = none) (hty : (Tryz.prog.info? ty).map (·.size) = some 1)
  (i j o' : Nat) (y y' : Ses) (u : Value) (haddr : a.eval p = .pointer (some ⟨g, o', none⟩)) (hoff : o' = i * 39 + j) (hx : a.eval x = u) (hu : u.cells.toList = [u]) (hu1 : u.oneCell' = true)
  (HO : kS.R 33 W base ok (.slice (some ⟨g, 0, none⟩) n cap) xs) (hi : i < n) (hxs : xs[i]? = some y) (hj : j < 39) (hy : scl y' = (scl y).set j u) (HB : Below base w0 W)
  (h : ∀ w1, kS.R 33 w1 base ok (.slice (some ⟨g, 0, none⟩) n cap) (xs.set i y') → Below base w0 w1 → wpList Tryz.prog ops Q rest a w1) : wpList Tryz.prog ops Q (o :: rest) a W := by
 obtain ⟨c, hcl, hcM, hcc, _⟩ := Kd.R_elem HO zses (i : Int) (by omega) (by omega)
 have hc : c = scl y := by
  have hc' : c = scl (xs.getD (i : Int).toNat zses) := hcM
  rw [Int.toNat_natCast, List.getD_eq_getElem?_getD, hxs] at hc'
  exact hc'
 subst hc
 refine Kd.R_store kS (w0 := w0) base hN hgd ty p x ho 33 (i : Int) j xs y' u [u] (scl y) ok (fun _ => False) haddr (by rw [hoff]; rfl) hx hu hty (by simpa using hu1) HO (by omega) (by omega) hcl hcc (by show j + 1 ≤ 39; omega) ?_ (fun _ h => h.elim) HB ?_
 ·show _ = scl y'
  rw [set_parts _ _ _ (by rw [scl_len]; exact hj), hy]
 ·intro w1 h1 h2 _
  exact h w1 (by simpa using h1) h2
end
theorem own_at {W : World} {base g n cap : Nat} {ok : Nat → Prop} {xs : List Ses} (HO : kS.R 33 W base ok (.slice (some ⟨g, 0, none⟩) n cap) xs) {i : Nat} (hi : i < n) {y : Ses} (hx : xs[i]? = some y) :
  W.cell? ⟨g, i * 39 + 36, none⟩ = some (.bool y.isOpen) ∧ W.cell? ⟨g, i * 39 + 37, none⟩ = some (.int .u64 y.count) ∧ W.frozen? ⟨g, i * 39 + 36, none⟩ = false ∧ W.frozen? ⟨g, i * 39 + 37, none⟩ = false ∧ W.frozen? ⟨g, i * 39 + 38, none⟩ = false := by
 obtain ⟨c, hcl, hcM, hcc, hfr⟩ := Kd.R_elem HO zses (i : Int) (by omega) (by omega)
 have hc : c = scl y := by
  have hc' : c = scl (xs.getD (i : Int).toNat zses) := hcM
  rw [Int.toNat_natCast, List.getD_eq_getElem?_getD, hx] at hc'
  exact hc'
 subst hc
 obtain ⟨h0, h1, h2, h3, h4, h5, h6⟩ := scl_at y
 exact ⟨hcc 36 _ h4, hcc 37 _ h5, hfr 36, hfr 37, hfr 38⟩
theorem oldS_ok {p : Ses → Bool} {l : List Ses} {d idle now r1 : Int} {r2 : List Ses} {r3 : Int} (h : oldS p l d idle now = (r1, r2, r3)) (h3 : r3 = 0) :
  ∃ (i : Nat) (x : Ses), r1 = i ∧ r2 = l ∧ findS l d = i ∧ l[i]? = some x ∧ p x = true ∧ lateB x idle now = false ∧ mayS l = true ∧ timesB idle now = true := by
 subst h3
 unfold oldS at h
 split at h
 ·simp at h
 ·rename_i hmt
  split at h
  ·simp at h
  ·rename_i x hx
   split at h
   ·simp at h
   ·rename_i hn
    split at h
    ·simp at h
    ·rename_i hla
     simp only [Prod.mk.injEq] at h
     obtain ⟨h1, h2, _⟩ := h
     have hge := findS_ge l d
     have hfi : findS l d = ((findS l d).toNat : Int) := by
      have : ¬ findS l d = -1 := fun e => hn (.inl e)
      omega
     refine ⟨(findS l d).toNat, x, by omega, h2.symm, hfi, hx, ?_, by simpa using hla, ?_, ?_⟩
     ·cases hp : p x with
      | true => rfl
      | false => exact absurd (.inr hp) hn
     ·cases hm : mayS l with
      | true => rfl
      | false => exact absurd (.inl hm) hmt
     ·cases ht : timesB idle now with
      | true => rfl
      | false => exact absurd (.inr ht) hmt
def proveS (l : List Ses) (d idle now : Int) : List Ses × Int :=
 let o := oldS (fun _ => true) l d idle now
 if o.2.2 = 0 then
  match l[o.1.toNat]? with
  | none => (l, 0)
  | some x => if x.isOpen = true then (l, 6) else (l.set o.1.toNat { { x with isOpen := true } with last := now }, 0)
 else o.2
def useS (l : List Ses) (d count idle now : Int) : List Ses × Int :=
 let o := oldS (fun x => x.isOpen) l d idle now
 if o.2.2 = 0 then
  match l[o.1.toNat]? with
  | none => (l, 0)
  | some x => if count ≤ x.count then (l, 8) else if count = 18446744073709551615 then (l.eraseIdx o.1.toNat, 0) else (l.set o.1.toNat { { x with count := count } with last := now }, 0)
 else o.2
set_option maxHeartbeats 2000000 in
set_option maxRecDepth 100000 in
theorem prove_any (d idle now : Int) (l : List Ses) (A : Option Addr) (c : Nat) (w : World) (hr : kS.C w A l.length l) (hc : l.length ≤ c) (hl : l.length < 1000000) (r1 : List Ses) (r2 : Int) (h : proveS l d idle now = (r1, r2)) :
  Calls Tryz.prog 86 #[.slice A l.length c, .int .u64 d, .int .i64 idle, .int .i64 now] w fun e w' => ∃ v : Value, e = .returned (.tuple #[v, .int .i64 r2]) ∧ ToldO w.heap.size w' v r1 ∧ Below w.heap.size w w' := by
 have HR := aq_ hr
 have HC := aq_ hc
 have HL := aq_ hl
 obtain ⟨⟨o1, o2, o3⟩, ho⟩ : ∃ o, oldS (fun _ => true) l d idle now = o := ⟨_, rfl⟩
 have HD := aq_ ho
 unfold proveS at h
 rw [ho] at h
 simp only [] at h
 clear hr hc
 by_cases h3 : o3 = 0
 ·rw [if_pos h3] at h
  obtain ⟨i, x, rfl, rfl, hf, hx, hz1, hz2, hz3, hz4⟩ := oldS_ok ho h3
  clear hz1 hz2 hz3 hz4
  subst h3
  have hi : i < o2.length := (List.getElem?_eq_some_iff.1 hx).1
  rw [Int.toNat_natCast, hx] at h
  simp only [] at h
  have HX := aq_ hx
  have HI := aq_ hi
  have HXS := aq_ (show (o2.set i { x with isOpen := true })[i]? = some { x with isOpen := true } by rw [List.getElem?_set_self hi])
  have HLS := aq_ (show (o2.set i { x with isOpen := true }).length = o2.length from List.length_set)
  have HSS := aq_ (show (o2.set i { x with isOpen := true }).set i { { x with isOpen := true } with last := now } = o2.set i { { x with isOpen := true } with last := now } from List.set_set ..)
  have hi2 : (i : Int) ≤ 1000000 := by omega
  have hi3 : (i : Int) < (o2.length : Int) := by omega
  cases hop : x.isOpen with
  | true =>
   rw [hop, if_pos rfl] at h
   cases h
   have HOP := aq_ hop
   clear hop hf hx ho hl
   go_enter Tryz.func86, Tryz.ntmps86
   go_wp2_with (go_at_call 102; (with_reducible refine (old_prove d idle now _ A c _ HR.out HC.out HL.out (i : Int) _ 0 HD.out).mono ?_); rintro e w1 ⟨v, rfl, ho, hb⟩; obtain ⟨g, cap, rfl, _, _, _⟩ := Kd.R_form ho (Nat.lt_of_le_of_lt (Nat.zero_le _) HI.out); obtain ⟨q0, q1, q2, q3, q4⟩ := own_at ho HI.out HX.out; rw [HOP.out] at q0; have HO := aq_ ho; have HB := aq_ hb; clear ho hb)
   go_ret2
   exact ⟨_, rfl, told_O HO.out, HB.out⟩
  | false =>
   rw [hop, if_neg (by decide)] at h
   cases h
   have HOP := aq_ hop
   clear hop hf hx ho hl
   go_enter Tryz.func86, Tryz.ntmps86
   go_wp2_with (first
    | (go_at_call 102; (with_reducible refine (old_prove d idle now _ A c _ HR.out HC.out HL.out (i : Int) _ 0 HD.out).mono ?_); rintro e w1 ⟨v, rfl, ho, hb⟩; obtain ⟨g, cap, rfl, _, _, _⟩ := Kd.R_form ho (Nat.lt_of_le_of_lt (Nat.zero_le _) HI.out); obtain ⟨q0, q1, q2, q3, q4⟩ := own_at ho HI.out HX.out; rw [HOP.out] at q0; have HO := aq_ ho; have HB := aq_ hb; clear ho hb)
    | ((with_reducible refine gate_store2 4 (.tmp 40) (.const (.bool true)) rfl ?_); refine store_F (w0 := w) 4 (.tmp 40) (.const (.bool true)) rfl rfl rfl (by kernel_rfl) i 36 _ x { x with isOpen := true } (.bool true) rfl (by simp) rfl rfl rfl HO.out HI.out HX.out (by decide) (scl_open x true) HB.out ?_; clear q0 q1 q2 q3 q4; intro w2 ho hb; have HO2 := aq_ ho; have HB2 := aq_ hb; clear ho hb)
    | ((with_reducible refine gate_store2 3 (.tmp 42) (.tmp 38) rfl ?_); refine store_F (w0 := w) 3 (.tmp 42) (.tmp 38) rfl rfl rfl (by kernel_rfl) i 38 _ { x with isOpen := true } { { x with isOpen := true } with last := now } (.int .i64 now) rfl (by simp) rfl rfl rfl HO2.out HI.out HXS.out (by decide) (scl_last _ now) HB2.out ?_; intro w3 ho hb; have HO3 := aq_ ho; have HB3 := aq_ hb; clear ho hb))
   go_ret2
   refine ⟨_, rfl, ?_, HB3.out⟩
   have h := HO3.out
   rw [HSS.out] at h
   exact told_O h
 ·rw [if_neg h3] at h
  cases h
  have h3b : (r2 == 0) = false := by simpa using h3
  have h3c : (r2 != 0) = true := by simpa using h3
  clear h3 hl ho
  go_enter Tryz.func86, Tryz.ntmps86
  go_wp2_with (go_at_call 102; (with_reducible refine (old_prove d idle now l A c _ HR.out HC.out HL.out o1 r1 r2 HD.out).mono ?_); rintro e w1 ⟨v, rfl, ho, hb⟩; have HO := aq_ ho; have HB := aq_ hb; clear ho hb)
  go_ret2
  exact ⟨_, rfl, told_O HO.out, HB.out⟩
set_option maxHeartbeats 2000000 in
set_option maxRecDepth 100000 in
theorem use_any (d count idle now : Int) (l : List Ses) (A : Option Addr) (c : Nat) (w : World) (hr : kS.C w A l.length l) (hc : l.length ≤ c) (hl : l.length < 1000000) (r1 : List Ses) (r2 : Int) (h : useS l d count idle now = (r1, r2)) :
  Calls Tryz.prog 87 #[.slice A l.length c, .int .u64 d, .int .u64 count, .int .i64 idle, .int .i64 now] w fun e w' => ∃ v : Value, e = .returned (.tuple #[v, .int .i64 r2]) ∧ ToldO w.heap.size w' v r1 ∧ Below w.heap.size w w' := by
 have HR := aq_ hr
 have HC := aq_ hc
 have HL := aq_ hl
 obtain ⟨⟨o1, o2, o3⟩, ho⟩ : ∃ o, oldS (fun x => x.isOpen) l d idle now = o := ⟨_, rfl⟩
 have HD := aq_ ho
 unfold useS at h
 rw [ho] at h
 simp only [] at h
 clear hr hc
 by_cases h3 : o3 = 0
 ·rw [if_pos h3] at h
  obtain ⟨i, x, rfl, rfl, hf, hx, hz1, hz2, hz3, hz4⟩ := oldS_ok ho h3
  clear hz1 hz2 hz3 hz4
  subst h3
  have hi : i < o2.length := (List.getElem?_eq_some_iff.1 hx).1
  rw [Int.toNat_natCast, hx] at h
  simp only [] at h
  have HX := aq_ hx
  have HI := aq_ hi
  have HXS := aq_ (show (o2.set i { x with count := count })[i]? = some { x with count := count } by rw [List.getElem?_set_self hi])
  have HSS := aq_ (show (o2.set i { x with count := count }).set i { { x with count := count } with last := now } = o2.set i { { x with count := count } with last := now } from List.set_set ..)
  have hi2 : (i : Int) ≤ 1000000 := by omega
  have hi3 : (i : Int) < (o2.length : Int) := by omega
  by_cases hcnt : count ≤ x.count
  ·rw [if_pos hcnt] at h
   cases h
   have hd1 : decide (count ≤ x.count) = true := decide_eq_true hcnt
   clear hcnt hf hx ho hl
   go_enter Tryz.func87, Tryz.ntmps87
   go_wp2_with (go_at_call 102; (with_reducible refine (old_use d idle now _ A c _ HR.out HC.out HL.out (i : Int) _ 0 HD.out).mono ?_); rintro e w1 ⟨v, rfl, ho, hb⟩; obtain ⟨g, cap, rfl, _, _, _⟩ := Kd.R_form ho (Nat.lt_of_le_of_lt (Nat.zero_le _) HI.out); obtain ⟨q0, q1, q2, q3, q4⟩ := own_at ho HI.out HX.out; have HO := aq_ ho; have HB := aq_ hb; clear ho hb)
   go_ret2
   exact ⟨_, rfl, told_O HO.out, HB.out⟩
  ·rw [if_neg hcnt] at h
   have hd1 : decide (count ≤ x.count) = false := decide_eq_false hcnt
   have hd1' : x.count < count := by omega
   by_cases hmx : count = 18446744073709551615
   ·rw [if_pos hmx] at h
    cases h
    have hd2 : (count == 18446744073709551615) = true := by simpa using hmx
    clear hcnt hf hx ho hl hmx hd1
    go_enter Tryz.func87, Tryz.ntmps87
    go_wp2_with (first
     | (go_at_call 102; (with_reducible refine (old_use d idle now _ A c _ HR.out HC.out HL.out (i : Int) _ 0 HD.out).mono ?_); rintro e w1 ⟨v, rfl, ho, hb⟩; obtain ⟨g, cap, rfl, _, _, _⟩ := Kd.R_form ho (Nat.lt_of_le_of_lt (Nat.zero_le _) HI.out); obtain ⟨q0, q1, q2, q3, q4⟩ := own_at ho HI.out HX.out; have HO := aq_ ho; have HB := aq_ hb; clear ho hb)
     | (go_at_call 105; (with_reducible refine (delete_any i _ g cap w.heap.size _ HO.out HI.out HB.out.size).mono ?_); rintro e w2 ⟨rfl, ho, hb⟩; have HO2 := aq_ ho; have HB2 := aq_ (HB.out.trans hb); clear ho hb q0 q1 q2 q3 q4))
    go_ret2
    exact ⟨_, rfl, told_O HO2.out, HB2.out⟩
   ·rw [if_neg hmx] at h
    cases h
    have hd2 : (count == 18446744073709551615) = false := by simpa using hmx
    clear hcnt hf hx ho hl hmx hd1
    go_enter Tryz.func87, Tryz.ntmps87
    go_wp2_with (first
     | (go_at_call 102; (with_reducible refine (old_use d idle now _ A c _ HR.out HC.out HL.out (i : Int) _ 0 HD.out).mono ?_); rintro e w1 ⟨v, rfl, ho, hb⟩; obtain ⟨g, cap, rfl, _, _, _⟩ := Kd.R_form ho (Nat.lt_of_le_of_lt (Nat.zero_le _) HI.out); obtain ⟨q0, q1, q2, q3, q4⟩ := own_at ho HI.out HX.out; have HO := aq_ ho; have HB := aq_ hb; clear ho hb)
     | ((with_reducible refine gate_store2 27 (.tmp 53) (.tmp 50) rfl ?_); refine store_F (w0 := w) 27 (.tmp 53) (.tmp 50) rfl rfl rfl (by kernel_rfl) i 37 _ x { x with count := count } (.int .u64 count) rfl (by simp) rfl rfl rfl HO.out HI.out HX.out (by decide) (scl_count x count) HB.out ?_; clear q0 q1 q2 q3 q4; intro w2 ho hb; have HO2 := aq_ ho; have HB2 := aq_ hb; clear ho hb)
     | ((with_reducible refine gate_store2 3 (.tmp 55) (.tmp 51) rfl ?_); refine store_F (w0 := w) 3 (.tmp 55) (.tmp 51) rfl rfl rfl (by kernel_rfl) i 38 _ { x with count := count } { { x with count := count } with last := now } (.int .i64 now) rfl (by simp) rfl rfl rfl HO2.out HI.out HXS.out (by decide) (scl_last _ now) HB2.out ?_; intro w3 ho hb; have HO3 := aq_ ho; have HB3 := aq_ hb; clear ho hb))
    go_ret2
    refine ⟨_, rfl, ?_, HB3.out⟩
    have h := HO3.out
    rw [HSS.out] at h
    exact told_O h
 ·rw [if_neg h3] at h
  cases h
  have h3b : (r2 == 0) = false := by simpa using h3
  have h3c : (r2 != 0) = true := by simpa using h3
  clear h3 hl ho
  go_enter Tryz.func87, Tryz.ntmps87
  go_wp2_with (go_at_call 102; (with_reducible refine (old_use d idle now l A c _ HR.out HC.out HL.out o1 r1 r2 HD.out).mono ?_); rintro e w1 ⟨v, rfl, ho, hb⟩; have HO := aq_ ho; have HB := aq_ hb; clear ho hb)
  go_ret2
  exact ⟨_, rfl, told_O HO.out, HB.out⟩
theorem below_size_le {base : Nat} {W w : World} (h : Below base W w) (hb : base ≤ W.heap.size) : base ≤ w.heap.size := Nat.le_trans hb h.size
theorem blk_base {w w' : World} {base g : Nat} {o : Obj} (h : w.heap[g]? = some o) (hlt : g < base) (hb : Below base w w') : w'.heap[g]? = some o := (hb.block g hlt).trans h
section
variable {ops : Array Oper} {rest : List Oper} {o : Oper} {a : Act} {Q : Exit → Act → World → Prop}
theorem store_E {W w0 : World} {base g n cap : Nat} {ok : Nat → Prop} {xs : List Ses} (p x : Operand) (ho : o.op = .store 33 p x) (hN : o.dst = none) (hgd : o.guard = none)
  (i o' : Nat) (y : Ses) (haddr : a.eval p = .pointer (some ⟨g, o', none⟩)) (hoff : o' = i * 39) (hx : a.eval x = .agg (sca y))
  (HO : kS.R 33 W base ok (.slice (some ⟨g, 0, none⟩) n cap) xs) (hi : i < n) (HB : Below base w0 W)
  (h : ∀ w1, kS.R 33 w1 base ok (.slice (some ⟨g, 0, none⟩) n cap) (xs.set i y) → Below base w0 w1 → wpList Tryz.prog ops Q rest a w1) : wpList Tryz.prog ops Q (o :: rest) a W := by
 obtain ⟨c, hcl, hcM, hcc, _⟩ := Kd.R_elem HO zses (i : Int) (by omega) (by omega)
 refine Kd.R_store kS (w0 := w0) base hN hgd 33 p x ho 33 (i : Int) 0 xs y (.agg (sca y)) (scl y) c ok (fun _ => False) haddr (by rw [hoff]; rfl) hx rfl (by rw [scl_len]; exact infoS) (scl_one y) HO (by omega) (by omega) hcl hcc (by rw [scl_len]; exact Nat.le_refl _) ?_ (fun _ h => h.elim) HB ?_
 ·show _ = scl y
  have : c.drop (0 + (scl y).length) = [] := List.drop_eq_nil_of_le (by rw [hcl, scl_len]; exact Nat.le_refl _)
  rw [this]
  simp
 ·intro w1 h1 h2 _
  exact h w1 (by simpa using h1) h2
end
theorem own_cells {W : World} {base g n cap : Nat} {ok : Nat → Prop} {xs : List Ses} (HO : kS.R 33 W base ok (.slice (some ⟨g, 0, none⟩) n cap) xs) {i : Nat} (hi : i < n) {y : Ses} (hx : xs[i]? = some y) :
  ∀ j v, (scl y)[j]? = some v → W.cell? ((⟨g, i * 39, none⟩ : Addr).add j) = some v := by
 obtain ⟨c, hcl, hcM, hcc, _⟩ := Kd.R_elem HO zses (i : Int) (by omega) (by omega)
 have hc : c = scl y := by
  have hc' : c = scl (xs.getD (i : Int).toNat zses) := hcM
  rw [Int.toNat_natCast, List.getD_eq_getElem?_getD, hx] at hc'
  exact hc'
 subst hc
 intro j v hv
 have hadd : (⟨g, i * 39, none⟩ : Addr).add j = ⟨g, i * 39 + j, none⟩ := by unfold Addr.add; split <;> simp_all
 rw [hadd]
 exact hcc j v hv
structure DelInv (p : Ses → Bool) (l xs : List Ses) (m k : Nat) : Prop where
 len : xs.length = l.length
 le : m < k
 kle : k ≤ l.length
 take : xs.take m = (l.take k).filter (fun y => !p y)
 drop : xs.drop k = l.drop k
theorem DelInv.start {p : Ses → Bool} {l : List Ses} {i : Nat} {x : Ses} (hx : l[i]? = some x) (hp : p x = true) (h0 : ∀ y ∈ l.take i, p y = false) : DelInv p l l i (i + 1) := by
 have hi : i < l.length := (List.getElem?_eq_some_iff.1 hx).1
 refine ⟨rfl, by omega, by omega, ?_, rfl⟩
 rw [List.take_add_one, hx, Option.toList_some, List.filter_append, List.filter_eq_self.2 (fun y hy => by rw [h0 y hy]; rfl)]
 simp [hp]
theorem DelInv.at {p : Ses → Bool} {l xs : List Ses} {m k : Nat} (h : DelInv p l xs m k) : xs[k]? = l[k]? := by
 have h1 := congrArg (fun z : List Ses => z[0]?) h.drop
 simpa using h1
theorem DelInv.skip {p : Ses → Bool} {l xs : List Ses} {m k : Nat} {y : Ses} (h : DelInv p l xs m k) (hy : l[k]? = some y) (hp : p y = true) : DelInv p l xs m (k + 1) := by
 have hk : k < l.length := (List.getElem?_eq_some_iff.1 hy).1
 refine ⟨h.len, by have := h.le; omega, by omega, ?_, ?_⟩
 ·rw [h.take, List.take_add_one, hy, Option.toList_some, List.filter_append]
  simp [hp]
 ·have h1 := congrArg (fun z : List Ses => z.drop 1) h.drop
  simpa [List.drop_drop] using h1
theorem DelInv.keep {p : Ses → Bool} {l xs : List Ses} {m k : Nat} {y : Ses} (h : DelInv p l xs m k) (hy : l[k]? = some y) (hp : p y = false) : DelInv p l (xs.set m y) (m + 1) (k + 1) := by
 have hk : k < l.length := (List.getElem?_eq_some_iff.1 hy).1
 have hm : m < xs.length := by have := h.le; have := h.len; omega
 refine ⟨by rw [List.length_set]; exact h.len, by have := h.le; omega, by omega, ?_, ?_⟩
 ·rw [List.take_add_one, List.getElem?_set_self hm, Option.toList_some, List.take_set_of_le (Nat.le_refl _), h.take, List.take_add_one, hy, Option.toList_some, List.filter_append]
  simp [hp]
 ·rw [List.drop_set_of_lt (by have := h.le; omega)]
  have h1 := congrArg (fun z : List Ses => z.drop 1) h.drop
  simpa [List.drop_drop] using h1
theorem DelInv.done {p : Ses → Bool} {l xs : List Ses} {m k : Nat} (h : DelInv p l xs m k) (hk : k = l.length) : xs.take m = l.filter (fun y => !p y) := by
 rw [h.take, hk, List.take_length]
theorem filter_none {p : Ses → Bool} {l : List Ses} (h : ∀ y ∈ l, p y = false) : l.filter (fun y => !p y) = l := List.filter_eq_self.2 (fun y hy => by rw [h y hy]; rfl)
def awakeS (l : List Ses) (idle now : Int) : List Ses := l.filter (fun y => !lateB y idle now)
set_option maxHeartbeats 4000000 in
set_option maxRecDepth 100000 in
theorem delf_any (idle now : Int) (l : List Ses) (g cap base b b2 : Nat) (W : World) (HO0 : kS.R 33 W base (fun _ => True) (.slice (some ⟨g, 0, none⟩) l.length cap) l) (hb : base ≤ W.heap.size) (hl : l.length < 1000000)
  (hp : W.heap[b]? = some (.cells #[.int .i64 idle] 3 (0, 0))) (hq : W.heap[b2]? = some (.cells #[.int .i64 now] 3 (0, 0))) (hb1 : b < base) (hb2 : b2 < base) :
  Calls Tryz.prog 99 #[.slice (some ⟨g, 0, none⟩) l.length cap, .func (.func 100) #[] #[.pointer (some ⟨b, 0, none⟩), .pointer (some ⟨b2, 0, none⟩)]] W fun e w' =>
   e = .returned (.slice (some ⟨g, 0, none⟩) (awakeS l idle now).length cap) ∧ kS.R 33 w' base (fun _ => True) (.slice (some ⟨g, 0, none⟩) (awakeS l idle now).length cap) (awakeS l idle now) ∧ Below base W w' := by
 have hC := (Kd.R_reads' HO0).2.2
 have hcap : l.length ≤ cap := (Kd.R_reads' HO0).2.1
 have HP := aq_ hp
 have HQ := aq_ hq
 have HB1 := aq_ hb1
 have HB2 := aq_ hb2
 have HBS := aq_ hb
 have HL := aq_ hl
 have HCA := aq_ hcap
 have HC := aq_ hC
 have HO := aq_ HO0
 clear hp hq hb1 hb2 hb HO0 hC
 unfold awakeS
 obtain ⟨p, hpp⟩ : ∃ p : Ses → Bool, p = fun x => lateB x idle now := ⟨_, rfl⟩
 have hfun : (fun y => !lateB y idle now) = fun y => !p y := by rw [hpp]
 rw [hfun]
 have HPP := aq_ hpp
 clear hfun
 rcases idxS_spec p l with ⟨h1, h2⟩ | ⟨i, x, h1, h2, h3, h4⟩
 ·have HF := aq_ h1
  rw [filter_none h2]
  rw [hpp] at HF
  clear h1 h2 hpp HPP p
  go_enter Tryz.func99, Tryz.ntmps99
  go_wp2_with (go_at_call 74; (with_reducible refine (index_late idle now b b2 l (some ⟨g, 0, none⟩) cap _ HC.out HP.out HQ.out).mono ?_); rintro e w1 ⟨he_, hb⟩; rw [HF.out] at he_; subst he_; have HO1 := aq_ (Kd.R_below HO.out hb); have HBB := aq_ (hb.mono HBS.out); clear hb)
  go_ret
  exact ⟨rfl, HO1.out, HBB.out⟩
 ·have HF := aq_ h1
  have HI := aq_ (DelInv.start h2 h3 h4)
  have HM := aq_ (show ((l.filter (fun y => !p y)).length ≤ l.length) from List.length_filter_le _ _)
  have hi : i < l.length := (List.getElem?_eq_some_iff.1 h2).1
  have hi2 : (i : Int) ≤ 1000000 := by omega
  have hne : ((i : Int) == -1) = false := by simp
  rw [hpp] at HF
  clear h1 h2 h3 h4 hpp
  go_enter Tryz.func99, Tryz.ntmps99
  go_wp2_with (go_at_call 74; (with_reducible refine (index_late idle now b b2 l (some ⟨g, 0, none⟩) cap _ HC.out HP.out HQ.out).mono ?_); rintro e w1 ⟨he_, hb⟩; rw [HF.out] at he_; subst he_; have HO1 := aq_ (Kd.R_below HO.out hb); have HBB := aq_ (hb.mono HBS.out); clear hb)
  go_loopw [5, 6] (fun v5 v6 wr => ∃ (m k : Nat) (xs : List Ses), v5 = .int .i64 m ∧ v6 = .int .i64 k ∧ Aside0 (DelInv p l xs m k) ∧ Aside0 (kS.R 33 wr base (fun _ => True) (.slice (some ⟨g, 0, none⟩) l.length cap) xs) ∧ Aside0 (Below base W wr)) (fun _ v6 _ => l.length - (intOf v6).toNat)
  case atStart => exact ⟨i, i + 1, l, rfl, by go_num, HI, HO1, HBB⟩
  case round =>
   clear HO1 HBB HI hi hi2 hne HO
   obtain ⟨m, k, xs, rfl, rfl, HD, HO, HBB⟩ := hrel
   obtain ⟨wo, rfl⟩ : ∃ wo : World, wo = wr := ⟨_, rfl⟩
   have hmk := HD.out.le
   have hkl := HD.out.kle
   by_cases hlt : k < l.length
   ·obtain ⟨y, hy⟩ : ∃ y, l[k]? = some y := ⟨_, List.getElem?_eq_getElem hlt⟩
    have hX := own_cells HO.out hlt (by rw [HD.out.at]; exact hy)
    have HX := aq_ hX
    have HY := aq_ hy
    have hk2 : (k : Int) ≤ 1000000 := by omega
    have hm2 : (m : Int) ≤ 1000000 := by omega
    have hml : m < l.length := by omega
    have HML := aq_ hml
    have HBX := aq_ (below_size_le HBB.out HBS.out)
    clear hX hy
    cases hs : p y with
    | true =>
     have HS := aq_ (HD.out.skip HY.out hs)
     have HT := aq_ (show lateB y idle now = true by rw [← hs, HPP.out])
     clear hs
     go_wp2_with (first
      | (with_reducible refine load_S (.tmp 24) rfl rfl (p := ⟨g, k * 39, none⟩) rfl HX.out ?_)
      | (with_reducible refine store_S (.tmp 7) (.tmp 25) rfl rfl rfl rfl rfl rfl ?_; intro w1 hx1 hb; have X1 := aq_ hx1; have HO1 := aq_ (Kd.R_below HO.out hb); have HBB1 := aq_ (HBB.out.trans (hb.mono HBX.out)); clear hx1 hb)
      | (with_reducible refine load_S (.tmp 7) rfl rfl (p := ⟨wo.heap.size, 0, none⟩) rfl (cells_box X1.out) ?_)
      | (go_at_call 100; (with_reducible refine (begin1_any y ⟨b, 0, none⟩ ⟨b2, 0, none⟩ idle now _ (blk_cell (blk_base HP.out HB1.out HBB1.out) 0) (blk_cell (blk_base HQ.out HB2.out HBB1.out) 0) (blk_lt (blk_base HP.out HB1.out HBB1.out)) (blk_lt (blk_base HQ.out HB2.out HBB1.out))).mono ?_); rintro e w2 ⟨he_, hb⟩; rw [HT.out] at he_; subst he_; have X1 := aq_ (blk_below X1.out hb); have HO1 := aq_ (Kd.R_below HO1.out hb); have HBB1 := aq_ (HBB1.out.trans (hb.mono (below_size_le HBB1.out HBS.out))); clear hb))
     go_roundw
     case rel => exact ⟨m, k + 1, xs, rfl, by go_num, HS, HO1, HBB1⟩
     case measure => simp [intOf]; omega
    | false =>
     have HS := aq_ (HD.out.keep HY.out hs)
     have HT := aq_ (show lateB y idle now = false by rw [← hs, HPP.out])
     clear hs
     go_wp2_with (first
      | (with_reducible refine load_S (.tmp 24) rfl rfl (p := ⟨g, k * 39, none⟩) rfl HX.out ?_)
      | (with_reducible refine store_S (.tmp 7) (.tmp 25) rfl rfl rfl rfl rfl rfl ?_; intro w1 hx1 hb; have X1 := aq_ hx1; have HO1 := aq_ (Kd.R_below HO.out hb); have HBB1 := aq_ (HBB.out.trans (hb.mono HBX.out)); clear hx1 hb)
      | (with_reducible refine load_S (.tmp 7) rfl rfl (p := ⟨wo.heap.size, 0, none⟩) rfl (cells_box X1.out) ?_)
      | (go_at_call 100; (with_reducible refine (begin1_any y ⟨b, 0, none⟩ ⟨b2, 0, none⟩ idle now _ (blk_cell (blk_base HP.out HB1.out HBB1.out) 0) (blk_cell (blk_base HQ.out HB2.out HBB1.out) 0) (blk_lt (blk_base HP.out HB1.out HBB1.out)) (blk_lt (blk_base HQ.out HB2.out HBB1.out))).mono ?_); rintro e w2 ⟨he_, hb⟩; rw [HT.out] at he_; subst he_; have X1 := aq_ (blk_below X1.out hb); have HO1 := aq_ (Kd.R_below HO1.out hb); have HBB1 := aq_ (HBB1.out.trans (hb.mono (below_size_le HBB1.out HBS.out))); clear hb)
      | ((with_reducible refine gate_store2 33 (.tmp 33) (.tmp 32) rfl ?_); refine store_E (w0 := W) (.tmp 33) (.tmp 32) rfl rfl rfl m _ y rfl (by simp) rfl HO1.out HML.out HBB1.out ?_; intro w3 ho hb; have HO2 := aq_ ho; have HBB2 := aq_ hb; clear ho hb))
     go_roundw
     case rel => exact ⟨m + 1, k + 1, xs.set m y, by go_num, by go_num, HS, HO2, HBB2⟩
     case measure => simp [intOf]; omega
   ·obtain rfl : k = l.length := by omega
    have HE := aq_ (HD.out.done rfl)
    have hm3 : m ≤ xs.length := by have := HD.out.len; omega
    have HT := aq_ (Kd.R_take HO.out hm3)
    have HLE := aq_ (show (l.filter (fun y => !p y)).length = m by rw [← HE.out, List.length_take]; omega)
    have c1 := cut_fromS (some ⟨g, 0, none⟩) l.length cap m (by omega)
    have c2 := cut_toS (some ⟨g, 0, none⟩) l.length cap m (by omega) HCA.out
    rw [if_neg (by omega)] at c1
    have HSU := aq_ (show m + (l.length - m) ≤ cap by omega)
    clear hm3 hcap hl hmk hkl hlt
    go_wp2_with (with_reducible refine clear_S (.tmp 38) rfl rfl rfl (k := m) rfl rfl HT.out (Nat.le_refl _) HSU.out HBB.out ?_; intro w2 ho hb_; have HO2 := aq_ ho; have HBB2 := aq_ hb_; clear ho hb_)
    go_ret
    rw [HLE.out]
    refine ⟨rfl, ?_, HBB2.out⟩
    have h := HO2.out
    rw [HE.out] at h
    exact h
end Go.Proofs.YtdinphnljokigaaGreat.P
end
