/- What LawSymForge rests on, part 16: several texts put together. -/
import Derived.Test.YtdinphnljokigaaGreatR4
import Derived.Below
import Derived.Test.YtdinphnljokigaaGreatR12
import Derived.Laws.Bits64b
import Derived.Test.YtdinphnljokigaaGreatR2
set_option linter.unusedVariables false
set_option linter.unnecessarySimpa false
set_option linter.unusedSimpArgs false
set_option maxRecDepth 100000
section
namespace Go.Proofs.YtdinphnljokigaaGreat.P
open Go.RowKit Go.Lib Go.Proofs.YtdinphnljokigaaGreatW.PrintWords Go.Proofs.YtdinphnljokigaaGreatW.PrintLast Go.Proofs.YtdinphnljokigaaGreatW.PrintMore
theorem info5 : (Tryz.prog.info? 5).map (fun i => (i.zero, i.size, i.bytes)) = some (some (.int .u8 0), 1, 1) := by kernel_rfl
theorem infoN : (Tryz.prog.info? 140).map (fun i => (i.zero, i.size, i.bytes)) = some (some (.agg #[(.int .u64 0), (.int .i64 0)]), 2, 16) := by kernel_rfl
structure S41 where
 f0 : Int
 f1 : Int
def z41 : S41 := ⟨(0 : Int), (0 : Int)⟩
def k41 : Kd S41 := Kd.iso (Kd.pair (Kd.int .u64) (Kd.int .i64)) (fun x : S41 => (x.f0, x.f1))
theorem k41_open {w : World} {x : S41} {cs : List Value} (h : k41.K w x cs) : cs = [.int .u64 x.f0, .int .i64 x.f1] := by
 obtain ⟨_, _, rfl, rfl, rfl⟩ := h
 exact rfl
theorem k41_openM {w : World} {base : Nat} {ok : Nat → Prop} {x : S41} {cs : List Value} (h : k41.M w base ok x cs) : cs = [.int .u64 x.f0, .int .i64 x.f1] := by
 obtain ⟨_, _, rfl, rfl, rfl⟩ := h
 exact rfl
theorem k41_mkM (w : World) (base : Nat) (ok : Nat → Prop) (x : S41)  : k41.M w base ok x [.int .u64 x.f0, .int .i64 x.f1] := ⟨[.int .u64 x.f0], [.int .i64 x.f1], rfl, rfl, rfl⟩
def rd_T41 (xs : List S41) (i : Int) : S41 := xs.getD i.toNat z41
theorem at_T41 {w : World} {A : Option Addr} {n : Nat} {xs : List S41} (h : Kd.C k41 w A n xs) (i : Int) (h0 : 0 ≤ i) (h1 : i < n) : ∃ ad , A = some ad ∧ w.cell? (ad.add (i.toNat * 2)) = some (.int .u64 (rd_T41 xs i).f0) ∧ w.cell? ⟨(ad.add (i.toNat * 2)).block, (ad.add (i.toNat * 2)).off + 1, none⟩ = some (.int .i64 (rd_T41 xs i).f1) := by
 obtain ⟨ad, c, e, _, hK, hc0⟩ := Kd.C_get h z41 i h0 h1
 have hc : ∀ j u, c[j]? = some u → w.cell? (ad.add (i.toNat * 2 + j)) = some u := hc0
 obtain rfl := k41_open hK
 exact ⟨ad, e, hc 0 _ rfl, by rw [← add_field _ _ 1 (by omega)]; exact hc 1 _ rfl⟩
end Go.Proofs.YtdinphnljokigaaGreat.P
end

section
namespace Go.Proofs.YtdinphnljokigaaGreat.P
def be : Nat → Int → List Int
 | 0, _ => []
 | k + 1, n => be k (n / 256) ++ [n % 256]
theorem be_length (k : Nat) : ∀ n, (be k n).length = k := by
 induction k with
 | zero => intro n; rfl
 | succ k ih => intro n; simp [be, ih]
def putL : Nat → Int → List Int → List Int
 | 0, _, xs => xs
 | m + 1, n, xs => putL m (n / 256) (xs.set m (n % 256))
theorem putL_be (m : Nat) : ∀ (n : Int) (xs : List Int), m ≤ xs.length → putL m n xs = be m n ++ xs.drop m := by
 induction m with
 | zero => intro n xs _; simp [putL, be]
 | succ m ih =>
  intro n xs h
  rw [putL, ih _ _ (by simp; omega), be, List.append_assoc]
  congr 1
  rw [List.drop_set, if_neg (by omega), Nat.sub_self, List.drop_eq_getElem_cons (by omega)]
  rfl
def fits (n k : Int) : Prop := 1 ≤ k ∧ k ≤ 8 ∧ n < 256 ^ k.toNat
instance (n k : Int) : Decidable (fits n k) := by unfold fits; infer_instance
end Go.Proofs.YtdinphnljokigaaGreat.P
end

section
namespace Go.Proofs.YtdinphnljokigaaGreat.P
open Go.RowKit Go.Proofs.YtdinphnljokigaaGreatW.PrintWords Go.Proofs.YtdinphnljokigaaGreatW.PrintLast Go.Proofs.YtdinphnljokigaaGreatW.PrintMore
def num_Put.f (a0 : Int) (a1 : Int) : Option (List Int × Bool) :=
 if 0 ≤ a0 ∧ a0 < 18446744073709551616 then some (if fits a0 a1 then (be a1.toNat a0, true) else ([], false)) else none
set_option maxHeartbeats 1000000 in
set_option maxRecDepth 100000 in
theorem put_no (a0 a1 : Int) (w : World) (h0 : 0 ≤ a0) (h1 : a0 < 18446744073709551616) (h : ¬ (1 ≤ a1 ∧ a1 ≤ 8)) :
  Calls Tryz.prog 113 #[.int .u64 a0, .int .i64 a1] w fun e w' => e = .returned (.tuple #[.slice none 0 0, .bool false]) ∧ w' = w := by
 clear h0 h1
 by_cases h2 : 1 ≤ a1
 ·have h3 : 8 < a1 := by omega
  clear h
  go_enter Tryz.func113, Tryz.ntmps113
  go_wp2
  go_step3
  go_wp2
  go_ret2
  exact ⟨rfl, rfl⟩
 ·have h3 : a1 < 1 := by omega
  clear h h2
  go_enter Tryz.func113, Tryz.ntmps113
  go_wp2
  go_step3
  go_wp2
  go_ret2
  exact ⟨rfl, rfl⟩
set_option maxHeartbeats 1000000 in
set_option maxRecDepth 100000 in
theorem put_big (a0 a1 : Int) (w : World) (h0 : 0 ≤ a0) (h1 : a0 < 18446744073709551616) (h2 : 1 ≤ a1) (h3 : a1 < 8) (h4 : (a0 / 2 ^ (8 * a1).toNat != 0) = true) :
  Calls Tryz.prog 113 #[.int .u64 a0, .int .i64 a1] w fun e w' => e = .returned (.tuple #[.slice none 0 0, .bool false]) ∧ w' = w := by
 go_enter Tryz.func113, Tryz.ntmps113
 go_wp2
 go_step3
 go_wp2
 rw [Exit.noGoto_ret]
 go_ret2
 exact ⟨rfl, rfl⟩
def PutJ (w : World) (a0 a1 : Int) (a' : Act) (w' : World) : Prop := ∃ (m : Nat) (i : Int) (n : Int) (xs : List Int) (v : Value) (u8 u9 u10 u11 u12 u13 u14 u15 u16 u17 u18 u19 u20 u21 u22 u23 u24 u25 u26 u27 u28 u29 u30 u31 u32 u33 u34 u35 u36 u37 : Value),
 a' = { tmps := #[.int .u64 n, .int .i64 a1, undef, undef, .slice none 0 0, .bool false, v, .int .i64 i, u8, u9, u10, u11, u12, u13, u14, u15, u16, u17, u18, u19, u20, u21, u22, u23, u24, u25, u26, u27, u28, u29, u30, u31, u32, u33, u34, u35, u36, u37], defers := [] } ∧
 Aside0 (i = m) ∧ m < a1.toNat ∧ Aside0 (putL (m + 1) n xs = be a1.toNat a0) ∧ Aside0 (xs.length = a1.toNat) ∧ 0 ≤ n ∧ n < 18446744073709551616 ∧
 Aside0 (Kd.R (Kd.int .u8) 5 w' w.heap.size (fun _ => True) v xs) ∧ Aside0 (Below w.heap.size w w')
def putM (a' : Act) (_ : World) : Nat := (intOf (a'.tmps.getD 7 undef)).toNat
set_option maxHeartbeats 1000000 in
set_option maxRecDepth 100000 in
theorem put_yes (a0 a1 : Int) (w : World) (h0 : 0 ≤ a0) (h1 : a0 < 18446744073709551616) (h2 : 1 ≤ a1) (h3 : a1 ≤ 8) (h4 : a1 < 8 → (a0 / 2 ^ (8 * a1).toNat != 0) = false) :
  Calls Tryz.prog 113 #[.int .u64 a0, .int .i64 a1] w fun e w' => ∃ v0_ : Value, e = .returned (.tuple #[v0_, .bool true]) ∧ Kd.R (Kd.int .u8) 5 w' w.heap.size (fun _ => True) v0_ (be a1.toNat a0) ∧ Below w.heap.size w w' := by
 have HB := aq_ (Below.refl w.heap.size w)
 have hfin := putL_be a1.toNat a0 (List.replicate a1.toNat 0) (by simp)
 rw [List.drop_of_length_le (by simp), List.append_nil] at hfin
 have HF := aq_ hfin
 clear hfin
 have c6b1 : decide (0 ≤ a1) = true := decide_eq_true (by omega)
 have c7b1 : decide ((a1 : Int).toNat ≤ 281474976710656) = true := decide_eq_true (by omega)
 obtain ⟨y106, hy106⟩ : ∃ y_ : List Int, y_ = (List.replicate (a1 : Int).toNat 0) := ⟨_, rfl⟩
 have Ny106 := aq_ hy106
 clear hy106
 go_enter Tryz.func113, Tryz.ntmps113
 go_wp2
 refine wp_scope_loop 0 (PutJ w a0 a1) putM rfl ?_ ?_
 ·rintro a' w' ⟨m, _, n, xs, v, u8, u9, u10, u11, u12, u13, u14, u15, u16, u17, u18, u19, u20, u21, u22, u23, u24, u25, u26, u27, u28, u29, u30, u31, u32, u33, u34, u35, u36, u37, rfl, ⟨rfl⟩, hm, HS, HX, hn0, hn1, HO, HB1⟩
  obtain ⟨go13, co13, eo13, gb13, gl13, cl13, HG13⟩ := Kd.R_form HO.out (by have := HX.out; omega)
  subst eo13
  have GB13 := aq_ gb13
  clear gb13 gl13 HG13
  have hl13 : (m : Int) < (xs.length : Int) := by have := HX.out; omega
  obtain ⟨hx13, hf13⟩ := Kd.R_celln 0 HO.out (m : Int) (by omega) hl13
  rw [Int.toNat_natCast] at hx13 hf13
  have HP14 := Kd.R_putg HO.out (m : Int) (n % 256)
  rw [Int.toNat_natCast] at HP14
  have hm1 : (m : Int) ≤ 7 := by omega
  go_wp2_with (first | ((with_reducible refine gate_store (t := 5) (p := 30) rfl ?_); refine store_event (t := 5) (p := 30) (v := ?vo_w15) (w1 := (w'.setCell ⟨go13, m, none⟩ (.int .u8 (n % 256)))) ?hg ?ho ?hn ?hr ?_; (case ho => rfl); (case hg => rfl); (case hn => rfl); (case hr => first | (go_simp; done) | (go_simp; rfl)); intro w15 hw; have HO2 := aq_ (show Kd.R (Kd.int .u8) 5 w15 w.heap.size (fun _ => True) (.slice (some ⟨go13, 0, none⟩) xs.length co13) (xs.set m (n % 256)) by rw [hw]; exact HP14.1); have HB2 := aq_ (show Below w.heap.size w w15 by rw [hw]; exact below_set HB1.out GB13.out); clear HP14 hw hx13 hf13 HO HB1))
  ·go_step3
   have hpos : 1 ≤ (m : Int) := by assumption
   refine ⟨rfl, ⟨m - 1, _, _, xs.set m (n % 256), _, _, _, _, _, _, _, _, _, _, _, _, _, _, _, _, _, _, _, _, _, _, _, _, _, _, _, _, _, _, _, rfl, ⟨by omega⟩, by omega, ⟨?_⟩, ⟨by rw [List.length_set]; exact HX.out⟩, by omega, by omega, HO2, HB2⟩, ?_⟩
   ·rw [show m - 1 + 1 = m by omega, ← HS.out]; rfl
   ·show (intOf (.int .i64 ((m : Int) - 1))).toNat < (intOf (.int .i64 (m : Int))).toNat
    simp [intOf]
    omega
  ·have hneg : (m : Int) < 1 := by assumption
   obtain rfl : m = 0 := by omega
   simp only [Exit.jump]
   go_ret2
   refine ⟨_, rfl, ?_, HB2.out⟩
   have hs := HS.out
   simp only [putL] at hs
   rw [← hs]
   exact HO2.out
 ·intro hpass
  by_cases hlt : a1 < 8
  all_goals
   go_wp2_with (first | ((with_reducible refine gate_dst (N := 23) rfl ?_); refine Kd.R_make (Kd.int .u8) _ 5 rfl (N := 23) rfl 64 _ _ rfl a1 rfl rfl Tryz.underlying64 (.int .u8 0) 1 info5 rfl (by decide) (by omega) 0 (ok := fun _ => True) (okp := fun _ => True) rfl (fun _ hk => hk) trivial (of_decide_eq_true (by first | (with_reducible assumption) | assumption)) (Nat.le_trans (Nat.mul_le_mul_right _ (of_decide_eq_true (by first | (with_reducible assumption) | assumption) : a1.toNat ≤ 281474976710656)) (by omega)) (Below.refl _ _) (Nat.le_refl _) ?_; intro v107 w8 ho9 hb hg_ hnew_; clear hg_ hnew_; rw [← Ny106.out] at ho9; have HO := aq_ (Kd.R_lower ho9 (below_size HB.out)); have HB2 := aq_ (below_step HB.out hb); clear hb ho9) | go_in)
   go_step3
   refine ‹∀ (a : Act) (w : World), Code.wp _ _ _ a w → _› _ _ (hpass _ _ ?_)
   refine ⟨a1.toNat - 1, a1 - 1, _, y106, v107, _, _, _, _, _, _, _, _, _, _, _, _, _, _, _, _, _, _, _, _, _, _, _, _, _, _, _, _, _, _, rfl, ⟨by omega⟩, by omega, ⟨?_⟩, ⟨by rw [Ny106.out, List.length_replicate]⟩, h0, h1, HO, HB2⟩
   rw [show a1.toNat - 1 + 1 = a1.toNat by omega, Ny106.out]; exact HF.out
theorem shr_fits (a0 a1 : Int) (h0 : 0 ≤ a0) (h2 : 1 ≤ a1) (h3 : a1 ≤ 8) : (a0 / 2 ^ (8 * a1).toNat = 0) ↔ a0 < 256 ^ a1.toNat := by
 have e : (2 : Int) ^ (8 * a1).toNat = 256 ^ a1.toNat := by
  rw [show (8 * a1).toNat = 8 * a1.toNat by omega, Int.pow_mul]
  rfl
 rw [e]
 constructor
 ·intro h
  have hp : (0 : Int) < 256 ^ a1.toNat := Int.pow_pos (by omega)
  have := Int.lt_ediv_add_one_mul_self a0 hp
  rw [h] at this
  omega
 ·exact fun h => Int.ediv_eq_zero_of_lt h0 h
theorem num_Put.calls (a0 : Int) (a1 : Int) (r1 : List Int) (r2 : Bool) (w : World) (h : num_Put.f a0 a1 = some (r1, r2)) :
  Calls Tryz.prog 113 #[.int .u64 a0, .int .i64 a1] w fun e w' => ∃ v0_ : Value, e = .returned (.tuple #[v0_, .bool r2]) ∧ Kd.R (Kd.int .u8) 5 w' w.heap.size (fun _ => True) v0_ r1 ∧ Below w.heap.size w w' := by
 unfold num_Put.f at h
 by_cases hb : 0 ≤ a0 ∧ a0 < 18446744073709551616
 ·rw [if_pos hb] at h
  by_cases hg : fits a0 a1
  ·rw [if_pos hg] at h
   simp only [Option.some.injEq, Prod.mk.injEq] at h
   obtain ⟨rfl, rfl⟩ := h
   exact put_yes a0 a1 w hb.1 hb.2 hg.1 hg.2.1 fun _ => bne_eq_false_iff_eq.mpr ((shr_fits a0 a1 hb.1 hg.1 hg.2.1).2 hg.2.2)
  ·rw [if_neg hg] at h
   simp only [Option.some.injEq, Prod.mk.injEq] at h
   obtain ⟨rfl, rfl⟩ := h
   have hno : Calls Tryz.prog 113 #[.int .u64 a0, .int .i64 a1] w fun e w' => e = .returned (.tuple #[.slice none 0 0, .bool false]) ∧ w' = w := by
    by_cases hk : 1 ≤ a1 ∧ a1 ≤ 8
    ·have h8 : a1 < 8 := by
      by_cases h8 : a1 = 8
      ·exact absurd ⟨hk.1, hk.2, by rw [h8]; exact hb.2⟩ hg
      ·omega
     exact put_big a0 a1 w hb.1 hb.2 hk.1 h8 (bne_iff_ne.mpr fun hz => hg ⟨hk.1, hk.2, (shr_fits a0 a1 hb.1 hk.1 hk.2).1 hz⟩)
    ·exact put_no a0 a1 w hb.1 hb.2 hk
   refine hno.mono ?_
   rintro e w' ⟨rfl, rfl⟩
   exact ⟨_, rfl, Kd.R_nil _ _ _ _ _, Below.refl _ _⟩
 ·rw [if_neg hb] at h
  cases h
end Go.Proofs.YtdinphnljokigaaGreat.P
end

section
namespace Go.Proofs.YtdinphnljokigaaGreat.P
open Go.RowKit Go.Lib Go.Proofs.YtdinphnljokigaaGreatW.PrintWords Go.Proofs.YtdinphnljokigaaGreatW.PrintLast Go.Proofs.YtdinphnljokigaaGreatW.PrintMore
def num_Cat.l0 : Nat → List Int → List (S41) → Int → Int → Option (List Int × Bool)
 | 0, _, _, _, _ => none
 | k + 1, x4, x12, x13, x14 => if x14 < x13 then (if 0 ≤ x14 then (if x14 < (x12.length : Int) then ((num_Put.f ((rd_T41 x12 x14).f0) ((rd_T41 x12 x14).f1)).bind fun bt173 => (if bt173.2 = true then (if x4.length + bt173.1.length < 140737488355328 then (num_Cat.l0 k (x4 ++ bt173.1) x12 x13 (wrap64 (x14 + 1))) else (none)) else (some (([] : List Int), false)))) else (none)) else (none)) else (some (x4, true))
def num_Cat.f (k : Nat) (l0 : List (S41)) : Option (List Int × Bool) := if (l0.length : Int) > 40 then (some (([] : List Int), false)) else (num_Cat.l0 k ([] : List Int) l0 (l0.length : Int) 0)
set_option maxHeartbeats 8000000 in
set_option maxRecDepth 100000 in
theorem num_Cat.calls (k : Nat) (A0 : Option Addr) (c0 : Nat) (l0 : List (S41)) (r1 : List Int) (r2 : Bool) (w : World) (hr0 : Kd.C k41 w A0 l0.length l0) (hc0 : l0.length ≤ c0) (h : num_Cat.f k l0 = some (r1, r2)) :
  Calls Tryz.prog 110 #[.slice A0 l0.length c0] w fun e w' => ∃ v0_ : Value, e = .returned (.tuple #[v0_, .bool r2]) ∧ Kd.R (Kd.int .u8) 5 w' w.heap.size (fun _ => True) v0_ r1 ∧ Below w.heap.size w w' := by
 have hu41 := Tryz.underlying140
 have HR0 := aq_ hr0
 have HC0 := aq_ hc0
 clear hr0 hc0
 have HB := aq_ (Below.refl w.heap.size w)
 have H : (if (l0.length : Int) > 40 then (some (([] : List Int), false)) else (num_Cat.l0 k ([] : List Int) l0 (l0.length : Int) 0)) = some (r1, r2) := h
 clear h
 by_cases c2 : (l0.length : Int) > 40
 ·rw [if_pos c2] at H
  have c2b0 : decide (40 < (l0.length : Int)) = true := decide_eq_true c2
  have c2b1 : decide (40 < l0.length) = true := decide_eq_true (by omega)
  clear c2
  simp only [Option.some.injEq, Prod.mk.injEq] at H
  obtain ⟨rfl, rfl⟩ := H
  go_enter Tryz.func110, Tryz.ntmps110
  go_wp2
  go_ret2
  exact ⟨_, by first | rfl | (simp [errW_none, errW_some] <;> rfl) | (simp [*, errW_none, errW_some] <;> rfl), by first | exact Kd.R_nil _ _ _ _ _ | exact Kd.N_nil _ _ _ _ _ | exact Kd.V_nil _ _ _ _ _ | exact Kd.Q_nil _ _ _ _ _ | exact Kd.S_nil _ _ _ _ _, by repeat (first | (with_reducible first | exact HB.out | apply below_alloc | apply pw_below_drewN | apply below_drew1) | exact HB.out)⟩
 ·rw [if_neg c2] at H
  have c2b0 : decide (40 < (l0.length : Int)) = false := decide_eq_false c2
  have c2b1 : decide (40 < l0.length) = false := decide_eq_false (by omega)
  clear c2
  have H' := aq_ H
  clear H
  go_enter Tryz.func110, Tryz.ntmps110
  go_wp2
  go_loopg [4, 14] k (fun kq v4 v14 w' => ∃ (x4_1 : List Int) (x14_1 : Int), v14 = .int .i64 x14_1 ∧ Aside0 (num_Cat.l0 kq x4_1 l0 (l0.length : Int) x14_1 = some (r1, r2)) ∧ Aside0 (kq ≤ k) ∧ Aside0 (Kd.R (Kd.int .u8) 5 w' w.heap.size (fun _ => True) v4 x4_1) ∧ Aside0 (Below w.heap.size w w'))
  case atStart => exact ⟨(([] : List Int)), (0), (by first | rfl | (simp; done) | (simp [*]; done)), H', ⟨Nat.le_refl _⟩, ⟨by first | exact Kd.R_nil _ _ _ _ _ | exact Kd.N_nil _ _ _ _ _ | exact Kd.V_nil _ _ _ _ _ | exact Kd.Q_nil _ _ _ _ _ | exact Kd.S_nil _ _ _ _ _⟩, ⟨by repeat (first | (with_reducible first | exact HB.out | apply below_alloc | apply pw_below_drewN | apply below_drew1) | exact HB.out)⟩⟩
  case round =>
   clear H'
   try clear c1
   try clear c2
   try clear c2b0
   try clear c2b1
   try clear p2
   obtain ⟨x4_1, x14_1, rfl, HA, HK1, HO_4, HB⟩ := hrel
   cases gk with
   | zero => exact absurd HA.out (by simp [num_Cat.l0])
   | succ k1 =>
    have H := HA.out
    clear HA
    simp only [num_Cat.l0] at H
    by_cases c3 : x14_1 < (l0.length : Int)
    ·rw [if_pos c3] at H
     have c3b0 : decide (x14_1 < (l0.length : Int)) = true := decide_eq_true c3
     clear c3
     by_cases c4 : 0 ≤ x14_1
     ·rw [if_pos c4] at H
      have c4b0 : decide (0 ≤ x14_1) = true := decide_eq_true c4
      clear c4
      by_cases c5 : x14_1 < (l0.length : Int)
      ·rw [if_pos c5] at H
       have c5b0 : decide (x14_1 < (l0.length : Int)) = true := decide_eq_true c5
       clear c5
       replace H := Option.bind_eq_some_iff.mp H
       obtain ⟨⟨t173, t174⟩, A60, H⟩ := H
       replace H : (if t174 = true then (if x4_1.length + t173.length < 140737488355328 then (num_Cat.l0 k1 (x4_1 ++ t173) l0 (l0.length : Int) (wrap64 (x14_1 + 1))) else (none)) else (some (([] : List Int), false))) = some (r1, r2) := H
       have A6 := aq_ A60
       clear A60
       by_cases c7 : t174 = true
       ·subst c7
        have H1 : (if x4_1.length + t173.length < 140737488355328 then (num_Cat.l0 k1 (x4_1 ++ t173) l0 (l0.length : Int) (wrap64 (x14_1 + 1))) else (none)) = some (r1, r2) := by rw [if_pos rfl] at H; exact H
        clear H
        have H := H1
        clear H1
        by_cases c8 : x4_1.length + t173.length < 140737488355328
        ·rw [if_pos c8] at H
         have LMc8 := aq_ c8
         clear c8
         obtain ⟨y177, hy177⟩ : ∃ y_ : List Int, y_ = (x4_1 ++ t173) := ⟨_, rfl⟩
         replace H : (num_Cat.l0 k1 y177 l0 (l0.length : Int) (wrap64 (x14_1 + 1))) = some (r1, r2) := by first | (rw [hy177]; with_reducible exact H) | (have H2_ := (Option.bind_some _ _).symm.trans H; rw [hy177]; with_reducible exact H2_) | (have H2_ := (Option.bind_some _ _).symm.trans H; with_reducible exact H2_) | with_reducible exact H | (rw [hy177]; exact H) | exact H
         have Ny177 := aq_ hy177
         clear hy177
         have H' := aq_ H
         clear H
         have p171 : 0 ≤ (x14_1 : Int) := of_decide_eq_true (by first | (with_reducible assumption) | assumption)
         have q171 : x14_1 < (l0.length : Int) := of_decide_eq_true (by first | (with_reducible assumption) | assumption)
         obtain ⟨ad171, e171, hx171_0, hx171_1⟩ := at_T41 HR0.out x14_1 p171 q171
         cases e171
         replace hx171_0 := (HB.out.cell (World.block_lt_of_cell? w _ hx171_0)).trans hx171_0
         replace hx171_1 := (HB.out.cell (World.block_lt_of_cell? w _ hx171_1)).trans hx171_1
         replace p171 := eq_true p171
         replace q171 := eq_true q171
         go_wp2_with (first | ((with_reducible refine gate_dst (N := 6) rfl ?_); refine box_event ?hg (N := 6) ?hd (cs := #[.int .u64 0, .int .i64 0]) (t := 140) ?hr ?_; (case hd => rfl); (case hg => rfl); (case hr => first | (go_simp; done) | (go_simp; rfl)); intro gb172 hg w9 hbox hb; have n0_ := aq_ (Kd.R_below (by (with_reducible repeat (first | apply Kd.R_alloc | apply Kd.R_drewN | apply Kd.R_drew)); exact HO_4.out) hb); have n1_ := aq_ (below_step (by repeat (first | (with_reducible first | exact HB.out | apply below_alloc | apply pw_below_drewN | apply below_drew1) | exact HB.out)) hb); have n2_ := aq_ (hbox); have n3_ := aq_ ((by rw [hg]; exact (below_size (by repeat (first | (with_reducible first | exact HB.out | apply below_alloc | apply pw_below_drewN | apply below_drew1) | exact HB.out))) : w.heap.size ≤ gb172)); have n4_ := aq_ ((by rw [hg]; exact (below_size (by repeat (first | (with_reducible first | exact HB.out | apply below_alloc | apply pw_below_drewN | apply below_drew1) | exact HB.out))) : w.heap.size ≤ gb172)); clear HO_4; clear HB; have HO_4 := n0_; have HB := n1_; have BK172 := n2_; have GW172 := n3_; have GE172 := n4_; clear n0_ n1_ n2_ n3_ n4_; clear hb hbox hg; have hcz10_0 : w9.cell? ⟨gb172, 0, none⟩ = some (.int .u64 0) := (blk_cell BK172.out 0).trans rfl; have hcz10_1 : w9.cell? ⟨gb172, 1, none⟩ = some (.int .i64 0) := (blk_cell BK172.out 1).trans rfl; have hfz10_0 := blk_frozen BK172.out 0; have hfz10_1 := blk_frozen BK172.out 1) | ((with_reducible refine gate_callee (f := 113) rfl ?_); refine goesL_ (some 23) rfl rfl Tryz.func113 (by kernel_rfl) rfl #[.int .u64 ((rd_T41 l0 x14_1).f0), .int .i64 ((rd_T41 l0 x14_1).f1)] rfl (by (try simp only [List.map_toArray, List.map_cons, List.map_nil]); first | done | rfl | (simp only [List.length_drop, List.length_take]; rfl)) ?_; (with_reducible refine (num_Put.calls ((rd_T41 l0 x14_1).f0) ((rd_T41 l0 x14_1).f1) t173 true _ A6.out).mono ?_); rintro e w11 ⟨v175, rfl, ho0, hb⟩; refine ⟨_, rfl, ?_⟩; have n0_ := aq_ (Kd.R_elder' (by (with_reducible repeat (first | apply Kd.R_alloc | apply Kd.R_drewN | apply Kd.R_drew)); exact (Kd.R_mono (Kd.R_far (p := ⟨gb172, 1, none⟩) (Kd.R_far (p := ⟨gb172, 0, none⟩) (Kd.R_types HO_4.out BK172.out (by decide)) (fun _ hk => hk.2) (.int .u64 ((rd_T41 l0 x14_1).f0))) (fun _ hk => hk.2) (.int .i64 ((rd_T41 l0 x14_1).f1))) (fun _ h_ => h_.1))) (Kd.R_base ho0) hb); have n1_ := aq_ (Kd.R_lower (Kd.R_new' ho0 (Kd.R_lt (by (with_reducible repeat (first | apply Kd.R_alloc | apply Kd.R_drewN | apply Kd.R_drew)); exact (Kd.R_mono (Kd.R_far (p := ⟨gb172, 1, none⟩) (Kd.R_far (p := ⟨gb172, 0, none⟩) (Kd.R_types HO_4.out BK172.out (by decide)) (fun _ hk => hk.2) (.int .u64 ((rd_T41 l0 x14_1).f0))) (fun _ hk => hk.2) (.int .i64 ((rd_T41 l0 x14_1).f1))) (fun _ h_ => h_.1))))) (below_size (by repeat (first | (with_reducible first | exact HB.out | apply below_alloc | apply pw_below_drewN | apply below_drew1 | refine below_set ?_ GE172.out) | exact HB.out)))); have n2_ := aq_ (blk_below (g := gb172) (o := .cells #[.int .u64 ((rd_T41 l0 x14_1).f0), .int .i64 ((rd_T41 l0 x14_1).f1)] 140 (0, 0)) (by (with_reducible repeat (first | refine blk_drewN ?_ _ | refine blk_drew ?_ | refine blk_alloc ?_ _)); refine blk_put (cs := #[.int .u64 ((rd_T41 l0 x14_1).f0), .int .i64 0]) ?_ 1 _ rfl; (with_reducible repeat (first | refine blk_drewN ?_ _ | refine blk_drew ?_ | refine blk_alloc ?_ _)); refine blk_put (cs := #[.int .u64 0, .int .i64 0]) ?_ 0 _ rfl; (with_reducible repeat (first | refine blk_drewN ?_ _ | refine blk_drew ?_ | refine blk_alloc ?_ _)); exact BK172.out) hb); have n3_ := aq_ (below_step (by repeat (first | (with_reducible first | exact HB.out | apply below_alloc | apply pw_below_drewN | apply below_drew1 | refine below_set ?_ GE172.out) | exact HB.out)) hb); clear HO_4; clear BK172; clear HB; have HO_4 := n0_; have HO176 := n1_; have BK172 := n2_; have HB := n3_; clear n0_ n1_ n2_ n3_; (try clear hb); (try clear hb2); (try clear hk); (try clear hi); (try clear ho0); obtain ⟨Ao13, co13, eo13⟩ := Kd.R_slice HO176.out; subst eo13) | ((with_reducible refine gate_builtin (b := .append) (xs := #[.tmp 28, .tmp 29]) rfl ?_); at_builtin; refine Kd.R_append_rows (Kd.int .u8) (w0 := w) w.heap.size rfl (.tmp 28) (.tmp 29) 64 5 (.int .u8 0) 1 rfl Tryz.underlying64 info5 rfl (by decide) (by omega) u4 x4_1 t173 _ _ _ (fun k_ => some k_ ≠ (.slice Ao13 t173.length co13 : Value).ownBlock) (fun _ => False) rfl rfl ?aO ?aR (fun _ _ h => h) (fun _ h => h.elim) ?aF ?aB ?aS ?aL ?_; (case aR => repeat (first | exact (Kd.R_reads' HO176.out).2.2 | (with_reducible refine Kd.C_alloc ?_ _) | (with_reducible refine Kd.C_drewN ?_ _) | (with_reducible refine Kd.C_drew ?_))); (case aB => exact (by repeat (first | (with_reducible first | exact HB.out | apply below_alloc | apply pw_below_drewN | apply below_drew1 | refine below_set ?_ GE172.out) | exact HB.out))); (case aF => exact (fun k_ hk => Kd.fresh' (Kd.R_lt (by (with_reducible repeat (first | apply Kd.R_alloc | apply Kd.R_drewN | apply Kd.R_drew)); exact HO176.out)) k_ hk)); (case aO => exact (by (with_reducible repeat (first | apply Kd.R_alloc | apply Kd.R_drewN | apply Kd.R_drew)); exact Kd.R_mono HO_4.out (fun _ hk => hk.2))); (case aS => exact (below_size (by repeat (first | (with_reducible first | exact HB.out | apply below_alloc | apply pw_below_drewN | apply below_drew1 | refine below_set ?_ GE172.out) | exact HB.out)))); (case aL => have := LMc8.out; omega); intro v178 w12 ho hb hg hat; rw [← Ny177.out] at ho; have n0_ := aq_ (blk_grown (g := gb172) (o := .cells #[.int .u64 ((rd_T41 l0 x14_1).f0), .int .i64 ((rd_T41 l0 x14_1).f1)] 140 (0, 0)) (by (with_reducible repeat (first | refine blk_drewN ?_ _ | refine blk_drew ?_ | refine blk_alloc ?_ _)); exact BK172.out) hg (Kd.R_ne HO_4.out BK172.out (by decide))); have n1_ := aq_ (Kd.R_after (ok := (fun _ => True)) (by (with_reducible repeat (first | apply Kd.R_alloc | apply Kd.R_drewN | apply Kd.R_drew)); exact HO176.out) hg hat); have n2_ := aq_ (hb); have n3_ := aq_ (ho); clear BK172; clear HO176; clear HB; clear HO_4; have BK172 := n0_; have HO176 := n1_; have HB := n2_; have HO179 := n3_; clear n0_ n1_ n2_ n3_; clear ho hb hg hat))
         go_roundg k1
         case measure => have := HK1.out; omega
         case rel => exact ⟨(y177), (wrap64 (x14_1 + 1)), (by first | rfl | (simp; done) | (simp [*]; done)), H', ⟨by have := HK1.out; omega⟩, ⟨by (with_reducible repeat (first | apply Kd.R_alloc | apply Kd.R_drewN | apply Kd.R_drew)); exact Kd.R_mono HO179.out (fun _ hk => trivial)⟩, ⟨by repeat (first | (with_reducible first | exact HB.out | apply below_alloc | apply pw_below_drewN | apply below_drew1 | refine below_set ?_ GE172.out) | exact HB.out)⟩⟩
        ·rw [if_neg c8] at H
         exact absurd H (by simp)
       ·replace c7 := Bool.eq_false_iff.mpr c7
        subst c7
        have H1 : (some (([] : List Int), false)) = some (r1, r2) := by rw [if_neg (show ¬ (false = true) by decide)] at H; exact H
        clear H
        have H := H1
        clear H1
        simp only [Option.some.injEq, Prod.mk.injEq] at H
        obtain ⟨rfl, rfl⟩ := H
        have p171 : 0 ≤ (x14_1 : Int) := of_decide_eq_true (by first | (with_reducible assumption) | assumption)
        have q171 : x14_1 < (l0.length : Int) := of_decide_eq_true (by first | (with_reducible assumption) | assumption)
        obtain ⟨ad171, e171, hx171_0, hx171_1⟩ := at_T41 HR0.out x14_1 p171 q171
        cases e171
        replace hx171_0 := (HB.out.cell (World.block_lt_of_cell? w _ hx171_0)).trans hx171_0
        replace hx171_1 := (HB.out.cell (World.block_lt_of_cell? w _ hx171_1)).trans hx171_1
        replace p171 := eq_true p171
        replace q171 := eq_true q171
        go_wp2_with (first | ((with_reducible refine gate_dst (N := 6) rfl ?_); refine box_event ?hg (N := 6) ?hd (cs := #[.int .u64 0, .int .i64 0]) (t := 140) ?hr ?_; (case hd => rfl); (case hg => rfl); (case hr => first | (go_simp; done) | (go_simp; rfl)); intro gb172 hg w14 hbox hb; have n0_ := aq_ (Kd.R_below (by (with_reducible repeat (first | apply Kd.R_alloc | apply Kd.R_drewN | apply Kd.R_drew)); exact HO_4.out) hb); have n1_ := aq_ (below_step (by repeat (first | (with_reducible first | exact HB.out | apply below_alloc | apply pw_below_drewN | apply below_drew1) | exact HB.out)) hb); have n2_ := aq_ (hbox); have n3_ := aq_ ((by rw [hg]; exact (below_size (by repeat (first | (with_reducible first | exact HB.out | apply below_alloc | apply pw_below_drewN | apply below_drew1) | exact HB.out))) : w.heap.size ≤ gb172)); have n4_ := aq_ ((by rw [hg]; exact (below_size (by repeat (first | (with_reducible first | exact HB.out | apply below_alloc | apply pw_below_drewN | apply below_drew1) | exact HB.out))) : w.heap.size ≤ gb172)); clear HO_4; clear HB; have HO_4 := n0_; have HB := n1_; have BK172 := n2_; have GW172 := n3_; have GE172 := n4_; clear n0_ n1_ n2_ n3_ n4_; clear hb hbox hg; have hcz15_0 : w14.cell? ⟨gb172, 0, none⟩ = some (.int .u64 0) := (blk_cell BK172.out 0).trans rfl; have hcz15_1 : w14.cell? ⟨gb172, 1, none⟩ = some (.int .i64 0) := (blk_cell BK172.out 1).trans rfl; have hfz15_0 := blk_frozen BK172.out 0; have hfz15_1 := blk_frozen BK172.out 1) | ((with_reducible refine gate_callee (f := 113) rfl ?_); refine goesL_ (some 23) rfl rfl Tryz.func113 (by kernel_rfl) rfl #[.int .u64 ((rd_T41 l0 x14_1).f0), .int .i64 ((rd_T41 l0 x14_1).f1)] rfl (by (try simp only [List.map_toArray, List.map_cons, List.map_nil]); first | done | rfl | (simp only [List.length_drop, List.length_take]; rfl)) ?_; (with_reducible refine (num_Put.calls ((rd_T41 l0 x14_1).f0) ((rd_T41 l0 x14_1).f1) t173 false _ A6.out).mono ?_); rintro e w16 ⟨v175, rfl, ho0, hb⟩; refine ⟨_, rfl, ?_⟩; have n0_ := aq_ (Kd.R_elder' (by (with_reducible repeat (first | apply Kd.R_alloc | apply Kd.R_drewN | apply Kd.R_drew)); exact (Kd.R_mono (Kd.R_far (p := ⟨gb172, 1, none⟩) (Kd.R_far (p := ⟨gb172, 0, none⟩) (Kd.R_types HO_4.out BK172.out (by decide)) (fun _ hk => hk.2) (.int .u64 ((rd_T41 l0 x14_1).f0))) (fun _ hk => hk.2) (.int .i64 ((rd_T41 l0 x14_1).f1))) (fun _ h_ => h_.1))) (Kd.R_base ho0) hb); have n1_ := aq_ (Kd.R_lower (Kd.R_new' ho0 (Kd.R_lt (by (with_reducible repeat (first | apply Kd.R_alloc | apply Kd.R_drewN | apply Kd.R_drew)); exact (Kd.R_mono (Kd.R_far (p := ⟨gb172, 1, none⟩) (Kd.R_far (p := ⟨gb172, 0, none⟩) (Kd.R_types HO_4.out BK172.out (by decide)) (fun _ hk => hk.2) (.int .u64 ((rd_T41 l0 x14_1).f0))) (fun _ hk => hk.2) (.int .i64 ((rd_T41 l0 x14_1).f1))) (fun _ h_ => h_.1))))) (below_size (by repeat (first | (with_reducible first | exact HB.out | apply below_alloc | apply pw_below_drewN | apply below_drew1 | refine below_set ?_ GE172.out) | exact HB.out)))); have n2_ := aq_ (blk_below (g := gb172) (o := .cells #[.int .u64 ((rd_T41 l0 x14_1).f0), .int .i64 ((rd_T41 l0 x14_1).f1)] 140 (0, 0)) (by (with_reducible repeat (first | refine blk_drewN ?_ _ | refine blk_drew ?_ | refine blk_alloc ?_ _)); refine blk_put (cs := #[.int .u64 ((rd_T41 l0 x14_1).f0), .int .i64 0]) ?_ 1 _ rfl; (with_reducible repeat (first | refine blk_drewN ?_ _ | refine blk_drew ?_ | refine blk_alloc ?_ _)); refine blk_put (cs := #[.int .u64 0, .int .i64 0]) ?_ 0 _ rfl; (with_reducible repeat (first | refine blk_drewN ?_ _ | refine blk_drew ?_ | refine blk_alloc ?_ _)); exact BK172.out) hb); have n3_ := aq_ (below_step (by repeat (first | (with_reducible first | exact HB.out | apply below_alloc | apply pw_below_drewN | apply below_drew1 | refine below_set ?_ GE172.out) | exact HB.out)) hb); clear HO_4; clear BK172; clear HB; have HO_4 := n0_; have HO176 := n1_; have BK172 := n2_; have HB := n3_; clear n0_ n1_ n2_ n3_; (try clear hb); (try clear hb2); (try clear hk); (try clear hi); (try clear ho0)))
        go_ret2
        exact ⟨_, by first | rfl | (simp [errW_none, errW_some] <;> rfl) | (simp [*, errW_none, errW_some] <;> rfl), by first | exact Kd.R_nil _ _ _ _ _ | exact Kd.N_nil _ _ _ _ _ | exact Kd.V_nil _ _ _ _ _ | exact Kd.Q_nil _ _ _ _ _ | exact Kd.S_nil _ _ _ _ _, by repeat (first | (with_reducible first | exact HB.out | apply below_alloc | apply pw_below_drewN | apply below_drew1 | refine below_set ?_ GE172.out) | exact HB.out)⟩
      ·rw [if_neg c5] at H
       exact absurd H (by simp)
     ·rw [if_neg c4] at H
      exact absurd H (by simp)
    ·rw [if_neg c3] at H
     have c3b0 : decide (x14_1 < (l0.length : Int)) = false := decide_eq_false c3
     clear c3
     simp only [Option.some.injEq, Prod.mk.injEq] at H
     obtain ⟨rfl, rfl⟩ := H
     go_wp2
     go_ret2
     exact ⟨_, by first | rfl | (simp [errW_none, errW_some] <;> rfl) | (simp [*, errW_none, errW_some] <;> rfl), by (with_reducible repeat (first | apply Kd.R_alloc | apply Kd.R_drewN | apply Kd.R_drew)); exact HO_4.out, by repeat (first | (with_reducible first | exact HB.out | apply below_alloc | apply pw_below_drewN | apply below_drew1) | exact HB.out)⟩
theorem put_f {n k : Int} (h : 0 ≤ n ∧ n < 18446744073709551616) : num_Put.f n k = some (if fits n k then (be k.toNat n, true) else ([], false)) := by
 unfold num_Put.f
 rw [if_pos h]
theorem put_fits {n k : Int} (h : 0 ≤ n ∧ n < 18446744073709551616) (hf : fits n k) : num_Put.f n k = some (be k.toNat n, true) := by
 rw [put_f h, if_pos hf]
theorem put_not {n k : Int} (h : 0 ≤ n ∧ n < 18446744073709551616) (hf : ¬ fits n k) : num_Put.f n k = some ([], false) := by
 rw [put_f h, if_neg hf]
def okN (x : S41) : Prop := (0 ≤ x.f0 ∧ x.f0 < 18446744073709551616) ∧ -9223372036854775808 ≤ x.f1 ∧ x.f1 < 9223372036854775808
def catL (l : List S41) : List Int := l.flatMap fun x => be x.f1.toNat x.f0
def allFit (l : List S41) : Prop := ∀ x ∈ l, fits x.f0 x.f1
instance (l : List S41) : Decidable (allFit l) := by unfold allFit; infer_instance
theorem rd_mid (pre : List S41) (x : S41) (suf : List S41) : rd_T41 (pre ++ x :: suf) (pre.length : Int) = x := by
 simp [rd_T41, List.getD_eq_getElem?_getD]
theorem allFit_cons (x : S41) (l : List S41) : allFit (x :: l) ↔ fits x.f0 x.f1 ∧ allFit l := by simp [allFit]
theorem catL_cons (x : S41) (l : List S41) : catL (x :: l) = be x.f1.toNat x.f0 ++ catL l := rfl
theorem cat_loop (l : List S41) (hl : l.length ≤ 40) (hok : ∀ x ∈ l, okN x) : ∀ (suf pre : List S41) (acc : List Int), l = pre ++ suf → acc.length ≤ 8 * pre.length →
  Ev (fun k => num_Cat.l0 k acc l (l.length : Int) (pre.length : Int)) (if allFit suf then (acc ++ catL suf, true) else ([], false)) := by
 intro suf
 induction suf with
 | nil =>
  intro pre acc h ha
  refine Ev.step (f := fun k => some (acc, true)) (fun k => ?_) ⟨0, fun k _ => ?_⟩
  ·simp only [num_Cat.l0]
   rw [if_neg (by rw [h]; simp)]
  ·simp [allFit, catL]
 | cons x suf ih =>
  intro pre acc h ha
  have hx : okN x := hok x (by rw [h]; simp)
  have hlen : l.length = pre.length + suf.length + 1 := by rw [h]; simp; omega
  have hi : (pre.length : Int) < (l.length : Int) := by omega
  have hrd : rd_T41 l (pre.length : Int) = x := by rw [h]; exact rd_mid pre x suf
  by_cases hf : fits x.f0 x.f1
  ·have h8 := hf.2.1
   have ih' := ih (pre ++ [x]) (acc ++ be x.f1.toNat x.f0) (by rw [h]; simp) (by simp [be_length]; omega)
   have e : (if allFit (x :: suf) then (acc ++ catL (x :: suf), true) else ([], false)) = (if allFit suf then ((acc ++ be x.f1.toNat x.f0) ++ catL suf, true) else ([], false)) := by
    simp [allFit_cons, hf, catL_cons]
   rw [e]
   refine Ev.step (fun k => ?_) ih'
   simp only [num_Cat.l0]
   rw [if_pos hi, if_pos (by omega), if_pos hi, hrd, put_fits hx.1 hf]
   simp only [Option.bind_some, if_true]
   rw [if_pos (by rw [be_length]; omega), w64 (by omega) (by omega)]
   simp
  ·refine Ev.step (f := fun k => some ([], false)) (fun k => ?_) ⟨0, fun k _ => ?_⟩
   ·simp only [num_Cat.l0]
    rw [if_pos hi, if_pos (by omega), if_pos hi, hrd, put_not hx.1 hf]
    simp
   ·simp [allFit_cons, hf]
theorem cat_ev (l : List S41) (hok : ∀ x ∈ l, okN x) : Ev (fun k => num_Cat.f k l) (if l.length ≤ 40 ∧ allFit l then (catL l, true) else ([], false)) := by
 by_cases hl : l.length ≤ 40
 ·have h := cat_loop l hl hok l [] [] rfl (by simp)
  refine Ev.congr (f := fun k => num_Cat.l0 k [] l (l.length : Int) 0) (fun k => ?_) ?_
  ·unfold num_Cat.f
   rw [if_neg (by omega)]
  ·simpa [hl] using h
 ·refine Ev.congr (f := fun _ => some ([], false)) (fun k => ?_) (Ev.const (by simp [hl]))
  unfold num_Cat.f
  rw [if_pos (by omega)]
theorem catN_any (l : List S41) (A : Option Addr) (c : Nat) (w : World) (hr : k41.C w A l.length l) (hc : l.length ≤ c) (hok : ∀ x ∈ l, okN x) (hl : l.length ≤ 40) (hf : ∀ x ∈ l, fits x.f0 x.f1) :
  Calls Tryz.prog 110 #[.slice A l.length c] w fun e w' => ∃ v0_ : Value, e = .returned (.tuple #[v0_, .bool true]) ∧ Kd.R (Kd.int .u8) 5 w' w.heap.size (fun _ => True) v0_ (catL l) ∧ Below w.heap.size w w' := by
 obtain ⟨k, hk⟩ := (cat_ev l hok).rounds
 rw [if_pos ⟨hl, hf⟩] at hk
 exact num_Cat.calls k A c l (catL l) true w hr hc hk
end Go.Proofs.YtdinphnljokigaaGreat.P
end
