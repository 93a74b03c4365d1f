/- What LawSymForge rests on, part 9: several texts put together. -/
import Derived.Test.YtdinphnljokigaaGreatR8
import Derived.Test.YtdinphnljokigaaGreatR2
set_option linter.unusedVariables false
set_option linter.unnecessarySimpa false
set_option linter.unusedSimpArgs false
set_option maxRecDepth 100000
section
namespace Go.Proofs.YtdinphnljokigaaGreat.P
open Go.RowKit Go.Lib Go.Proofs.YtdinphnljokigaaGreatW.PrintWords Go.Proofs.YtdinphnljokigaaGreatW.PrintLast Go.Proofs.YtdinphnljokigaaGreatW.PrintMore
section
variable {ops : Array Oper} {rest : List Oper} {o : Oper} {a : Act} {w : World} {Q : Exit → Act → World → Prop}
theorem gate_load (t : TypeId) (x : Operand) (_ho : o.op = .load t x) (h : wpList Tryz.prog ops Q (o :: rest) a w) : wpList Tryz.prog ops Q (o :: rest) a w := h
theorem load_Sw (x : Operand) (ho : o.op = .load 33 x) (hw : Region.wanted o (yielded ops a.tmps) = true) {p : Addr} (hx : a.eval x = .pointer (some p)) {s : Ses} (hc : ∀ j v, (scl s)[j]? = some v → w.cell? (p.add j) = some v)
  (h : wpList Tryz.prog ops Q rest (a.put o.dst (.agg (sca s))) w) : wpList Tryz.prog ops Q (o :: rest) a w :=
 gate_guard hw (load_S (o := { o with guard := none }) x ho rfl hx hc h)
end
def oldS (p : Ses → Bool) (l : List Ses) (d idle now : Int) : Int × List Ses × Int :=
 if mayS l = false ∨ timesB idle now = false then (-1, l, 1)
 else match l[(findS l d).toNat]? with
  | none => (-1, l, 5)
  | some x => if findS l d = -1 ∨ p x = false then (-1, l, 5) else if lateB x idle now = true then (-1, l.eraseIdx (findS l d).toNat, 9) else (findS l d, l, 0)
theorem all_S {w : World} {A : Option Addr} {l : List Ses} (h : kS.C w A l.length l) {i : Nat} (hi : i < l.length) {x : Ses} (hx : l[i]? = some x) :
  ∃ ad, A = some ad ∧ ∀ w1, Below w.heap.size w w1 → ∀ j v, (scl x)[j]? = some v → w1.cell? ((ad.add (i * 39)).add j) = some v := by
 obtain ⟨ad, e, _⟩ := at_S h i hi x hx
 refine ⟨ad, e, fun w1 hb => ?_⟩
 obtain ⟨ad', e', hc, _⟩ := at_S (Kd.C_below h hb) i hi x hx
 rw [e] at e'
 cases e'
 exact hc
set_option maxHeartbeats 2000000 in
set_option maxRecDepth 100000 in
theorem old_use (d idle now : Int) (l : List Ses) (A : Option Addr) (c : Nat) (w : World) (hr : kS.C w A l.length l) (hc : l.length ≤ c) (hl : l.length < 1000000) (r1 : Int) (r2 : List Ses) (r3 : Int) (h : oldS (fun x => x.isOpen) l d idle now = (r1, r2, r3)) :
  Calls Tryz.prog 102 #[.slice A l.length c, .int .u64 d, .int .i64 idle, .int .i64 now, .func (.func 104) #[] #[]] w fun e w' => ∃ v : Value, e = .returned (.tuple #[.int .i64 r1, v, .int .i64 r3]) ∧ kS.R 33 w' w.heap.size (fun _ => True) v r2 ∧ Below w.heap.size w w' := by
 have HR := aq_ hr
 have HC := aq_ hc
 have HL := aq_ hl
 clear hc hl
 unfold oldS at h
 cases hm : mayS l with
 | false =>
  rw [if_pos (.inl hm)] at h
  cases h
  have HM := aq_ hm
  clear hm hr
  go_enter Tryz.func102, Tryz.ntmps102
  go_wp2_with (first
   | (go_at_call 52; (with_reducible refine (clone_any l A c _ HR.out HL.out).mono ?_); rintro e w1 ⟨v, rfl, ho, hb⟩; have HO := aq_ ho; have HB := aq_ hb; clear ho hb)
   | (go_at_call 44; (with_reducible refine (mayL_any l A c _ (Kd.C_below HR.out HB.out) HC.out).mono ?_); rintro e w1 ⟨he_, hb⟩; rw [HM.out] at he_; subst he_; have HO := aq_ (Kd.R_below HO.out hb); have HB := aq_ (below_step HB.out hb); clear hb))
  go_ret3
  exact ⟨_, rfl, HO.out, HB.out⟩
 | true =>
 have HM := aq_ hm
 cases ht : timesB idle now with
 | false =>
  rw [if_pos (.inr ht)] at h
  cases h
  have HT := aq_ ht
  clear hm ht hr
  go_enter Tryz.func102, Tryz.ntmps102
  go_wp2_with (first
   | (go_at_call 52; (with_reducible refine (clone_any l A c _ HR.out HL.out).mono ?_); rintro e w1 ⟨v, rfl, ho, hb⟩; have HO := aq_ ho; have HB := aq_ hb; clear ho hb)
   | (go_at_call 44; (with_reducible refine (mayL_any l A c _ (Kd.C_below HR.out HB.out) HC.out).mono ?_); rintro e w1 ⟨he_, hb⟩; rw [HM.out] at he_; subst he_; have HO := aq_ (Kd.R_below HO.out hb); have HB := aq_ (below_step HB.out hb); clear hb)
   | (go_at_call 98; (with_reducible refine (times_any idle now _).mono ?_); rintro e w1 ⟨he_, rfl⟩; rw [HT.out] at he_; subst he_))
  go_ret3
  exact ⟨_, rfl, HO.out, HB.out⟩
 | true =>
 have HT := aq_ ht
 rw [if_neg (by rw [hm, ht]; simp)] at h
 clear hm ht
 have hge := findS_ge l d
 obtain ⟨r, hr0⟩ : ∃ r, findS l d = r := ⟨_, rfl⟩
 have HF := aq_ hr0
 rw [hr0] at h hge
 clear hr0
 by_cases hn : r = -1
 ·subst hn
  have h : ((-1 : Int), l, (5 : Int)) = (r1, r2, r3) := by
   split at h
   ·exact h
   ·rw [if_pos (.inl rfl)] at h
    exact h
  cases h
  clear hge hr
  go_enter Tryz.func102, Tryz.ntmps102
  go_wp2_with (first
   | (go_at_call 52; (with_reducible refine (clone_any l A c _ HR.out HL.out).mono ?_); rintro e w1 ⟨v, rfl, ho, hb⟩; have HO := aq_ ho; have HB := aq_ hb; clear ho hb)
   | (go_at_call 44; (with_reducible refine (mayL_any l A c _ (Kd.C_below HR.out HB.out) HC.out).mono ?_); rintro e w1 ⟨he_, hb⟩; rw [HM.out] at he_; subst he_; have HO := aq_ (Kd.R_below HO.out hb); have HB := aq_ (below_step HB.out hb); clear hb)
   | (go_at_call 98; (with_reducible refine (times_any idle now _).mono ?_); rintro e w1 ⟨he_, rfl⟩; rw [HT.out] at he_; subst he_)
   | (go_at_call 73; (with_reducible refine (find_any d l A c _ (Kd.C_below HR.out HB.out)).mono ?_); rintro e w1 ⟨he_, hb⟩; rw [HF.out] at he_; subst he_; have HO := aq_ (Kd.R_below HO.out hb); have HB := aq_ (below_step HB.out hb); clear hb))
  go_ret3
  exact ⟨_, rfl, HO.out, HB.out⟩
 obtain ⟨i, rfl⟩ : ∃ i : Nat, r = i := ⟨r.toNat, by omega⟩
 have hi : i < l.length := by omega
 obtain ⟨x, hx⟩ : ∃ x, l[i]? = some x := ⟨_, List.getElem?_eq_getElem hi⟩
 rw [Int.toNat_natCast, hx] at h
 simp only [] at h
 obtain ⟨ad, e0, hall⟩ := all_S hr hi hx
 subst e0
 have HX := aq_ hall
 have HI := aq_ hi
 have hf : ((i : Int) == -1) = false := by simp
 have hi2 : (i : Int) ≤ 1000000 := by have := HL.out; omega
 cases hp : (fun x => x.isOpen : Ses → Bool) x with
 | false =>
  rw [if_pos (.inr hp)] at h
  cases h
  have HP := aq_ hp
  clear hge hn hr hall hp hx
  go_enter Tryz.func102, Tryz.ntmps102
  go_wp2_with (first
   | (go_at_call 52; (with_reducible refine (clone_any l (some ad) c _ HR.out HL.out).mono ?_); rintro e w1 ⟨v, rfl, ho, hb⟩; have HO := aq_ ho; have HB := aq_ hb; clear ho hb)
   | (go_at_call 44; (with_reducible refine (mayL_any l (some ad) c _ (Kd.C_below HR.out HB.out) HC.out).mono ?_); rintro e w1 ⟨he_, hb⟩; rw [HM.out] at he_; subst he_; have HO := aq_ (Kd.R_below HO.out hb); have HB := aq_ (below_step HB.out hb); clear hb)
   | (go_at_call 98; (with_reducible refine (times_any idle now _).mono ?_); rintro e w1 ⟨he_, rfl⟩; rw [HT.out] at he_; subst he_)
   | (go_at_call 73; (with_reducible refine (find_any d l (some ad) c _ (Kd.C_below HR.out HB.out)).mono ?_); rintro e w1 ⟨he_, hb⟩; rw [HF.out] at he_; subst he_; have HO := aq_ (Kd.R_below HO.out hb); have HB := aq_ (below_step HB.out hb); clear hb)
   | ((with_reducible refine gate_load 33 (.tmp 36) rfl ?_); refine load_Sw (.tmp 36) rfl (by rfl) (p := ad.add (i * 39)) rfl (HX.out _ HB.out) ?_)
   | (go_at_call 104; (with_reducible refine (use1_any x _).mono ?_); rintro e w1 ⟨he_, hb⟩; (try rw [HP.out] at he_); subst he_; have HO := aq_ (Kd.R_below HO.out hb); have HB := aq_ (below_step HB.out hb); clear hb))
  go_ret3
  exact ⟨_, rfl, HO.out, HB.out⟩
 | true =>
 have HP := aq_ hp
 rw [if_neg (fun h2 => h2.elim hn (fun h2 => absurd (h2.symm.trans hp) (by decide)))] at h
 cases hla : lateB x idle now with
 | true =>
  rw [if_pos hla] at h
  cases h
  have HLA := aq_ hla
  clear hge hn hr hall hp hla hx
  go_enter Tryz.func102, Tryz.ntmps102
  go_wp2_with (first
   | (go_at_call 52; (with_reducible refine (clone_any l (some ad) c _ HR.out HL.out).mono ?_); rintro e w1 ⟨v, rfl, ho, hb⟩; obtain ⟨g, cap, rfl, _, _, _⟩ := Kd.R_form ho (Nat.lt_of_le_of_lt (Nat.zero_le _) HI.out); have HO := aq_ ho; have HB := aq_ hb; clear ho hb)
   | (go_at_call 44; (with_reducible refine (mayL_any l (some ad) c _ (Kd.C_below HR.out HB.out) HC.out).mono ?_); rintro e w1 ⟨he_, hb⟩; rw [HM.out] at he_; subst he_; have HO := aq_ (Kd.R_below HO.out hb); have HB := aq_ (below_step HB.out hb); clear hb)
   | (go_at_call 98; (with_reducible refine (times_any idle now _).mono ?_); rintro e w1 ⟨he_, rfl⟩; rw [HT.out] at he_; subst he_)
   | (go_at_call 73; (with_reducible refine (find_any d l (some ad) c _ (Kd.C_below HR.out HB.out)).mono ?_); rintro e w1 ⟨he_, hb⟩; rw [HF.out] at he_; subst he_; have HO := aq_ (Kd.R_below HO.out hb); have HB := aq_ (below_step HB.out hb); clear hb)
   | ((with_reducible refine gate_load 33 (.tmp 36) rfl ?_); refine load_Sw (.tmp 36) rfl (by rfl) (p := ad.add (i * 39)) rfl (HX.out _ HB.out) ?_)
   | (go_at_call 104; (with_reducible refine (use1_any x _).mono ?_); rintro e w1 ⟨he_, hb⟩; (try rw [HP.out] at he_); subst he_; have HO := aq_ (Kd.R_below HO.out hb); have HB := aq_ (below_step HB.out hb); clear hb)
   | (with_reducible refine load_S (.tmp 44) rfl rfl (p := ad.add (i * 39)) rfl (HX.out _ HB.out) ?_)
   | (go_at_call 101; (with_reducible refine (late_any x idle now _).mono ?_); rintro e w1 ⟨he_, hb⟩; rw [HLA.out] at he_; subst he_; have HO := aq_ (Kd.R_below HO.out hb); have HB := aq_ (below_step HB.out hb); clear hb)
   | (go_at_call 105; (with_reducible refine (delete_any i l g cap w.heap.size _ HO.out HI.out HB.out.size).mono ?_); rintro e w2 ⟨rfl, ho, hb⟩; have HO2 := aq_ ho; have HB2 := aq_ (HB.out.trans hb); clear ho hb))
  go_ret3
  exact ⟨_, rfl, HO2.out, HB2.out⟩
 | false =>
  rw [if_neg (by rw [hla]; decide)] at h
  cases h
  have HLA := aq_ hla
  clear hge hn hr hall hp hla hx
  go_enter Tryz.func102, Tryz.ntmps102
  go_wp2_with (first
   | (go_at_call 52; (with_reducible refine (clone_any l (some ad) c _ HR.out HL.out).mono ?_); rintro e w1 ⟨v, rfl, ho, hb⟩; have HO := aq_ ho; have HB := aq_ hb; clear ho hb)
   | (go_at_call 44; (with_reducible refine (mayL_any l (some ad) c _ (Kd.C_below HR.out HB.out) HC.out).mono ?_); rintro e w1 ⟨he_, hb⟩; rw [HM.out] at he_; subst he_; have HO := aq_ (Kd.R_below HO.out hb); have HB := aq_ (below_step HB.out hb); clear hb)
   | (go_at_call 98; (with_reducible refine (times_any idle now _).mono ?_); rintro e w1 ⟨he_, rfl⟩; rw [HT.out] at he_; subst he_)
   | (go_at_call 73; (with_reducible refine (find_any d l (some ad) c _ (Kd.C_below HR.out HB.out)).mono ?_); rintro e w1 ⟨he_, hb⟩; rw [HF.out] at he_; subst he_; have HO := aq_ (Kd.R_below HO.out hb); have HB := aq_ (below_step HB.out hb); clear hb)
   | ((with_reducible refine gate_load 33 (.tmp 36) rfl ?_); refine load_Sw (.tmp 36) rfl (by rfl) (p := ad.add (i * 39)) rfl (HX.out _ HB.out) ?_)
   | (go_at_call 104; (with_reducible refine (use1_any x _).mono ?_); rintro e w1 ⟨he_, hb⟩; (try rw [HP.out] at he_); subst he_; have HO := aq_ (Kd.R_below HO.out hb); have HB := aq_ (below_step HB.out hb); clear hb)
   | (with_reducible refine load_S (.tmp 44) rfl rfl (p := ad.add (i * 39)) rfl (HX.out _ HB.out) ?_)
   | (go_at_call 101; (with_reducible refine (late_any x idle now _).mono ?_); rintro e w1 ⟨he_, hb⟩; rw [HLA.out] at he_; subst he_; have HO := aq_ (Kd.R_below HO.out hb); have HB := aq_ (below_step HB.out hb); clear hb))
  go_ret3
  exact ⟨_, rfl, HO.out, HB.out⟩
set_option maxHeartbeats 2000000 in
set_option maxRecDepth 100000 in
theorem old_prove (d idle now : Int) (l : List Ses) (A : Option Addr) (c : Nat) (w : World) (hr : kS.C w A l.length l) (hc : l.length ≤ c) (hl : l.length < 1000000) (r1 : Int) (r2 : List Ses) (r3 : Int) (h : oldS (fun _ => true) l d idle now = (r1, r2, r3)) :
  Calls Tryz.prog 102 #[.slice A l.length c, .int .u64 d, .int .i64 idle, .int .i64 now, .func (.func 103) #[] #[]] w fun e w' => ∃ v : Value, e = .returned (.tuple #[.int .i64 r1, v, .int .i64 r3]) ∧ kS.R 33 w' w.heap.size (fun _ => True) v r2 ∧ Below w.heap.size w w' := by
 have HR := aq_ hr
 have HC := aq_ hc
 have HL := aq_ hl
 clear hc hl
 unfold oldS at h
 cases hm : mayS l with
 | false =>
  rw [if_pos (.inl hm)] at h
  cases h
  have HM := aq_ hm
  clear hm hr
  go_enter Tryz.func102, Tryz.ntmps102
  go_wp2_with (first
   | (go_at_call 52; (with_reducible refine (clone_any l A c _ HR.out HL.out).mono ?_); rintro e w1 ⟨v, rfl, ho, hb⟩; have HO := aq_ ho; have HB := aq_ hb; clear ho hb)
   | (go_at_call 44; (with_reducible refine (mayL_any l A c _ (Kd.C_below HR.out HB.out) HC.out).mono ?_); rintro e w1 ⟨he_, hb⟩; rw [HM.out] at he_; subst he_; have HO := aq_ (Kd.R_below HO.out hb); have HB := aq_ (below_step HB.out hb); clear hb))
  go_ret3
  exact ⟨_, rfl, HO.out, HB.out⟩
 | true =>
 have HM := aq_ hm
 cases ht : timesB idle now with
 | false =>
  rw [if_pos (.inr ht)] at h
  cases h
  have HT := aq_ ht
  clear hm ht hr
  go_enter Tryz.func102, Tryz.ntmps102
  go_wp2_with (first
   | (go_at_call 52; (with_reducible refine (clone_any l A c _ HR.out HL.out).mono ?_); rintro e w1 ⟨v, rfl, ho, hb⟩; have HO := aq_ ho; have HB := aq_ hb; clear ho hb)
   | (go_at_call 44; (with_reducible refine (mayL_any l A c _ (Kd.C_below HR.out HB.out) HC.out).mono ?_); rintro e w1 ⟨he_, hb⟩; rw [HM.out] at he_; subst he_; have HO := aq_ (Kd.R_below HO.out hb); have HB := aq_ (below_step HB.out hb); clear hb)
   | (go_at_call 98; (with_reducible refine (times_any idle now _).mono ?_); rintro e w1 ⟨he_, rfl⟩; rw [HT.out] at he_; subst he_))
  go_ret3
  exact ⟨_, rfl, HO.out, HB.out⟩
 | true =>
 have HT := aq_ ht
 rw [if_neg (by rw [hm, ht]; simp)] at h
 clear hm ht
 have hge := findS_ge l d
 obtain ⟨r, hr0⟩ : ∃ r, findS l d = r := ⟨_, rfl⟩
 have HF := aq_ hr0
 rw [hr0] at h hge
 clear hr0
 by_cases hn : r = -1
 ·subst hn
  have h : ((-1 : Int), l, (5 : Int)) = (r1, r2, r3) := by
   split at h
   ·exact h
   ·rw [if_pos (.inl rfl)] at h
    exact h
  cases h
  clear hge hr
  go_enter Tryz.func102, Tryz.ntmps102
  go_wp2_with (first
   | (go_at_call 52; (with_reducible refine (clone_any l A c _ HR.out HL.out).mono ?_); rintro e w1 ⟨v, rfl, ho, hb⟩; have HO := aq_ ho; have HB := aq_ hb; clear ho hb)
   | (go_at_call 44; (with_reducible refine (mayL_any l A c _ (Kd.C_below HR.out HB.out) HC.out).mono ?_); rintro e w1 ⟨he_, hb⟩; rw [HM.out] at he_; subst he_; have HO := aq_ (Kd.R_below HO.out hb); have HB := aq_ (below_step HB.out hb); clear hb)
   | (go_at_call 98; (with_reducible refine (times_any idle now _).mono ?_); rintro e w1 ⟨he_, rfl⟩; rw [HT.out] at he_; subst he_)
   | (go_at_call 73; (with_reducible refine (find_any d l A c _ (Kd.C_below HR.out HB.out)).mono ?_); rintro e w1 ⟨he_, hb⟩; rw [HF.out] at he_; subst he_; have HO := aq_ (Kd.R_below HO.out hb); have HB := aq_ (below_step HB.out hb); clear hb))
  go_ret3
  exact ⟨_, rfl, HO.out, HB.out⟩
 obtain ⟨i, rfl⟩ : ∃ i : Nat, r = i := ⟨r.toNat, by omega⟩
 have hi : i < l.length := by omega
 obtain ⟨x, hx⟩ : ∃ x, l[i]? = some x := ⟨_, List.getElem?_eq_getElem hi⟩
 rw [Int.toNat_natCast, hx] at h
 simp only [] at h
 obtain ⟨ad, e0, hall⟩ := all_S hr hi hx
 subst e0
 have HX := aq_ hall
 have HI := aq_ hi
 have hf : ((i : Int) == -1) = false := by simp
 have hi2 : (i : Int) ≤ 1000000 := by have := HL.out; omega
 cases hp : (fun _ => true : Ses → Bool) x with
 | false => exact absurd hp (by simp)
 | true =>
 have HP := aq_ hp
 rw [if_neg (fun h2 => h2.elim hn (fun h2 => absurd (h2.symm.trans hp) (by decide)))] at h
 cases hla : lateB x idle now with
 | true =>
  rw [if_pos hla] at h
  cases h
  have HLA := aq_ hla
  clear hge hn hr hall hp hla hx
  go_enter Tryz.func102, Tryz.ntmps102
  go_wp2_with (first
   | (go_at_call 52; (with_reducible refine (clone_any l (some ad) c _ HR.out HL.out).mono ?_); rintro e w1 ⟨v, rfl, ho, hb⟩; obtain ⟨g, cap, rfl, _, _, _⟩ := Kd.R_form ho (Nat.lt_of_le_of_lt (Nat.zero_le _) HI.out); have HO := aq_ ho; have HB := aq_ hb; clear ho hb)
   | (go_at_call 44; (with_reducible refine (mayL_any l (some ad) c _ (Kd.C_below HR.out HB.out) HC.out).mono ?_); rintro e w1 ⟨he_, hb⟩; rw [HM.out] at he_; subst he_; have HO := aq_ (Kd.R_below HO.out hb); have HB := aq_ (below_step HB.out hb); clear hb)
   | (go_at_call 98; (with_reducible refine (times_any idle now _).mono ?_); rintro e w1 ⟨he_, rfl⟩; rw [HT.out] at he_; subst he_)
   | (go_at_call 73; (with_reducible refine (find_any d l (some ad) c _ (Kd.C_below HR.out HB.out)).mono ?_); rintro e w1 ⟨he_, hb⟩; rw [HF.out] at he_; subst he_; have HO := aq_ (Kd.R_below HO.out hb); have HB := aq_ (below_step HB.out hb); clear hb)
   | ((with_reducible refine gate_load 33 (.tmp 36) rfl ?_); refine load_Sw (.tmp 36) rfl (by rfl) (p := ad.add (i * 39)) rfl (HX.out _ HB.out) ?_)
   | (go_at_call 103; (with_reducible refine (prove1_any x _).mono ?_); rintro e w1 ⟨he_, hb⟩; (try rw [HP.out] at he_); subst he_; have HO := aq_ (Kd.R_below HO.out hb); have HB := aq_ (below_step HB.out hb); clear hb)
   | (with_reducible refine load_S (.tmp 44) rfl rfl (p := ad.add (i * 39)) rfl (HX.out _ HB.out) ?_)
   | (go_at_call 101; (with_reducible refine (late_any x idle now _).mono ?_); rintro e w1 ⟨he_, hb⟩; rw [HLA.out] at he_; subst he_; have HO := aq_ (Kd.R_below HO.out hb); have HB := aq_ (below_step HB.out hb); clear hb)
   | (go_at_call 105; (with_reducible refine (delete_any i l g cap w.heap.size _ HO.out HI.out HB.out.size).mono ?_); rintro e w2 ⟨rfl, ho, hb⟩; have HO2 := aq_ ho; have HB2 := aq_ (HB.out.trans hb); clear ho hb))
  go_ret3
  exact ⟨_, rfl, HO2.out, HB2.out⟩
 | false =>
  rw [if_neg (by rw [hla]; decide)] at h
  cases h
  have HLA := aq_ hla
  clear hge hn hr hall hp hla hx
  go_enter Tryz.func102, Tryz.ntmps102
  go_wp2_with (first
   | (go_at_call 52; (with_reducible refine (clone_any l (some ad) c _ HR.out HL.out).mono ?_); rintro e w1 ⟨v, rfl, ho, hb⟩; have HO := aq_ ho; have HB := aq_ hb; clear ho hb)
   | (go_at_call 44; (with_reducible refine (mayL_any l (some ad) c _ (Kd.C_below HR.out HB.out) HC.out).mono ?_); rintro e w1 ⟨he_, hb⟩; rw [HM.out] at he_; subst he_; have HO := aq_ (Kd.R_below HO.out hb); have HB := aq_ (below_step HB.out hb); clear hb)
   | (go_at_call 98; (with_reducible refine (times_any idle now _).mono ?_); rintro e w1 ⟨he_, rfl⟩; rw [HT.out] at he_; subst he_)
   | (go_at_call 73; (with_reducible refine (find_any d l (some ad) c _ (Kd.C_below HR.out HB.out)).mono ?_); rintro e w1 ⟨he_, hb⟩; rw [HF.out] at he_; subst he_; have HO := aq_ (Kd.R_below HO.out hb); have HB := aq_ (below_step HB.out hb); clear hb)
   | ((with_reducible refine gate_load 33 (.tmp 36) rfl ?_); refine load_Sw (.tmp 36) rfl (by rfl) (p := ad.add (i * 39)) rfl (HX.out _ HB.out) ?_)
   | (go_at_call 103; (with_reducible refine (prove1_any x _).mono ?_); rintro e w1 ⟨he_, hb⟩; (try rw [HP.out] at he_); subst he_; have HO := aq_ (Kd.R_below HO.out hb); have HB := aq_ (below_step HB.out hb); clear hb)
   | (with_reducible refine load_S (.tmp 44) rfl rfl (p := ad.add (i * 39)) rfl (HX.out _ HB.out) ?_)
   | (go_at_call 101; (with_reducible refine (late_any x idle now _).mono ?_); rintro e w1 ⟨he_, hb⟩; rw [HLA.out] at he_; subst he_; have HO := aq_ (Kd.R_below HO.out hb); have HB := aq_ (below_step HB.out hb); clear hb))
  go_ret3
  exact ⟨_, rfl, HO.out, HB.out⟩
theorem scl_open (x : Ses) (b : Bool) : scl { x with isOpen := b } = (scl x).set 36 (.bool b) := by
 have hl : (x.key.1.map (Value.int .u8)).length = 32 := by rw [List.length_map, x.key.2]
 show _ :: _ :: _ :: _ :: (x.key.1.map (Value.int .u8) ++ [Value.bool b, Value.int .u64 x.count, Value.int .i64 x.last]) = _ :: _ :: _ :: _ :: ((x.key.1.map (Value.int .u8) ++ [Value.bool x.isOpen, Value.int .u64 x.count, Value.int .i64 x.last]).set 32 (.bool b))
 rw [List.set_append_right _ _ (by omega), hl]
 rfl
theorem scl_count (x : Ses) (n : Int) : scl { x with count := n } = (scl x).set 37 (.int .u64 n) := by
 have hl : (x.key.1.map (Value.int .u8)).length = 32 := by rw [List.length_map, x.key.2]
 show _ :: _ :: _ :: _ :: (x.key.1.map (Value.int .u8) ++ [Value.bool x.isOpen, Value.int .u64 n, Value.int .i64 x.last]) = _ :: _ :: _ :: _ :: ((x.key.1.map (Value.int .u8) ++ [Value.bool x.isOpen, Value.int .u64 x.count, Value.int .i64 x.last]).set 33 (.int .u64 n))
 rw [List.set_append_right _ _ (by omega), hl]
 rfl
theorem scl_last (x : Ses) (n : Int) : scl { x with last := n } = (scl x).set 38 (.int .i64 n) := by
 have hl : (x.key.1.map (Value.int .u8)).length = 32 := by rw [List.length_map, x.key.2]
 show _ :: _ :: _ :: _ :: (x.key.1.map (Value.int .u8) ++ [Value.bool x.isOpen, Value.int .u64 x.count, Value.int .i64 n]) = _ :: _ :: _ :: _ :: ((x.key.1.map (Value.int .u8) ++ [Value.bool x.isOpen, Value.int .u64 x.count, Value.int .i64 x.last]).set 34 (.int .i64 n))
 rw [List.set_append_right _ _ (by omega), hl]
 rfl
theorem set_parts (l : List Value) (j : Nat) (u : Value) (h : j < l.length) : l.take j ++ [u] ++ l.drop (j + [u].length) = l.set j u := by
 rw [List.set_eq_take_append_cons_drop, if_pos h]
 simp
section
variable {ops : Array Oper} {rest : List Oper} {o : Oper} {a : Act} {Q : Exit → Act → World → Prop}
theorem gate_store2 {W : World} (t : TypeId) (p v : Operand) (_ho : o.op = .store t p v) (h : wpList Tryz.prog ops Q (o :: rest) a W) : wpList Tryz.prog ops Q (o :: rest) a W := h
theorem store_F {W w0 : World} {base g n cap : Nat} {ok : Nat → Prop} {xs : List Ses} (ty : TypeId) (p x : Operand) (ho : o.op = .store ty p x) (hN : o.dst = none) (hgd : o.guard = none) (hty : (Tryz.prog.info? ty).map (·.size) = some 1)
  (i j o' : Nat) (y y' : Ses) (u : Value) (haddr : a.eval p = .pointer (some ⟨g, o', none⟩)) (hoff : o' = i * 39 + j) (hx : a.eval x = u) (hu : u.cells.toList = [u]) (hu1 : u.oneCell' = true)
  (HO : kS.R 33 W base ok (.slice (some ⟨g, 0, none⟩) n cap) xs) (hi : i < n) (hxs : xs[i]? = some y) (hj : j < 39) (hy : scl y' = (scl y).set j u) (HB : Below base w0 W)
  (h : ∀ w1, kS.R 33 w1 base ok (.slice (some ⟨g, 0, none⟩) n cap) (xs.set i y') → Below base w0 w1 → wpList Tryz.prog ops Q rest a w1) : wpList Tryz.prog ops Q (o :: rest) a W := by
 obtain ⟨c, hcl, hcM, hcc, _⟩ := Kd.R_elem HO zses (i : Int) (by omega) (by omega)
 have hc : c = scl y := by
  have hc' : c = scl (xs.getD (i : Int).toNat zses) := hcM
  rw [Int.toNat_natCast, List.getD_eq_getElem?_getD, hxs] at hc'
  exact hc'
 subst hc
 refine Kd.R_store kS (w0 := w0) base hN hgd ty p x ho 33 (i : Int) j xs y' u [u] (scl y) ok (fun _ => False) haddr (by rw [hoff]; rfl) hx hu hty (by simpa using hu1) HO (by omega) (by omega) hcl hcc (by show j + 1 ≤ 39; omega) ?_ (fun _ h => h.elim) HB ?_
 ·show _ = scl y'
  rw [set_parts _ _ _ (by rw [scl_len]; exact hj), hy]
 ·intro w1 h1 h2 _
  exact h w1 (by simpa using h1) h2
end
theorem own_at {W : World} {base g n cap : Nat} {ok : Nat → Prop} {xs : List Ses} (HO : kS.R 33 W base ok (.slice (some ⟨g, 0, none⟩) n cap) xs) {i : Nat} (hi : i < n) {y : Ses} (hx : xs[i]? = some y) :
  W.cell? ⟨g, i * 39 + 36, none⟩ = some (.bool y.isOpen) ∧ W.cell? ⟨g, i * 39 + 37, none⟩ = some (.int .u64 y.count) ∧ W.frozen? ⟨g, i * 39 + 36, none⟩ = false ∧ W.frozen? ⟨g, i * 39 + 37, none⟩ = false ∧ W.frozen? ⟨g, i * 39 + 38, none⟩ = false := by
 obtain ⟨c, hcl, hcM, hcc, hfr⟩ := Kd.R_elem HO zses (i : Int) (by omega) (by omega)
 have hc : c = scl y := by
  have hc' : c = scl (xs.getD (i : Int).toNat zses) := hcM
  rw [Int.toNat_natCast, List.getD_eq_getElem?_getD, hx] at hc'
  exact hc'
 subst hc
 obtain ⟨h0, h1, h2, h3, h4, h5, h6⟩ := scl_at y
 exact ⟨hcc 36 _ h4, hcc 37 _ h5, hfr 36, hfr 37, hfr 38⟩
theorem oldS_ok {p : Ses → Bool} {l : List Ses} {d idle now r1 : Int} {r2 : List Ses} {r3 : Int} (h : oldS p l d idle now = (r1, r2, r3)) (h3 : r3 = 0) :
  ∃ (i : Nat) (x : Ses), r1 = i ∧ r2 = l ∧ findS l d = i ∧ l[i]? = some x ∧ p x = true ∧ lateB x idle now = false ∧ mayS l = true ∧ timesB idle now = true := by
 subst h3
 unfold oldS at h
 split at h
 ·simp at h
 ·rename_i hmt
  split at h
  ·simp at h
  ·rename_i x hx
   split at h
   ·simp at h
   ·rename_i hn
    split at h
    ·simp at h
    ·rename_i hla
     simp only [Prod.mk.injEq] at h
     obtain ⟨h1, h2, _⟩ := h
     have hge := findS_ge l d
     have hfi : findS l d = ((findS l d).toNat : Int) := by
      have : ¬ findS l d = -1 := fun e => hn (.inl e)
      omega
     refine ⟨(findS l d).toNat, x, by omega, h2.symm, hfi, hx, ?_, by simpa using hla, ?_, ?_⟩
     ·cases hp : p x with
      | true => rfl
      | false => exact absurd (.inr hp) hn
     ·cases hm : mayS l with
      | true => rfl
      | false => exact absurd (.inl hm) hmt
     ·cases ht : timesB idle now with
      | true => rfl
      | false => exact absurd (.inr ht) hmt
def proveS (l : List Ses) (d idle now : Int) : List Ses × Int :=
 let o := oldS (fun _ => true) l d idle now
 if o.2.2 = 0 then
  match l[o.1.toNat]? with
  | none => (l, 0)
  | some x => if x.isOpen = true then (l, 6) else (l.set o.1.toNat { { x with isOpen := true } with last := now }, 0)
 else o.2
def useS (l : List Ses) (d count idle now : Int) : List Ses × Int :=
 let o := oldS (fun x => x.isOpen) l d idle now
 if o.2.2 = 0 then
  match l[o.1.toNat]? with
  | none => (l, 0)
  | some x => if count ≤ x.count then (l, 8) else if count = 18446744073709551615 then (l.eraseIdx o.1.toNat, 0) else (l.set o.1.toNat { { x with count := count } with last := now }, 0)
 else o.2
set_option maxHeartbeats 2000000 in
set_option maxRecDepth 100000 in
theorem prove_any (d idle now : Int) (l : List Ses) (A : Option Addr) (c : Nat) (w : World) (hr : kS.C w A l.length l) (hc : l.length ≤ c) (hl : l.length < 1000000) (r1 : List Ses) (r2 : Int) (h : proveS l d idle now = (r1, r2)) :
  Calls Tryz.prog 86 #[.slice A l.length c, .int .u64 d, .int .i64 idle, .int .i64 now] w fun e w' => ∃ v : Value, e = .returned (.tuple #[v, .int .i64 r2]) ∧ ToldO w.heap.size w' v r1 ∧ Below w.heap.size w w' := by
 have HR := aq_ hr
 have HC := aq_ hc
 have HL := aq_ hl
 obtain ⟨⟨o1, o2, o3⟩, ho⟩ : ∃ o, oldS (fun _ => true) l d idle now = o := ⟨_, rfl⟩
 have HD := aq_ ho
 unfold proveS at h
 rw [ho] at h
 simp only [] at h
 clear hr hc
 by_cases h3 : o3 = 0
 ·rw [if_pos h3] at h
  obtain ⟨i, x, rfl, rfl, hf, hx, hz1, hz2, hz3, hz4⟩ := oldS_ok ho h3
  clear hz1 hz2 hz3 hz4
  subst h3
  have hi : i < o2.length := (List.getElem?_eq_some_iff.1 hx).1
  rw [Int.toNat_natCast, hx] at h
  simp only [] at h
  have HX := aq_ hx
  have HI := aq_ hi
  have HXS := aq_ (show (o2.set i { x with isOpen := true })[i]? = some { x with isOpen := true } by rw [List.getElem?_set_self hi])
  have HLS := aq_ (show (o2.set i { x with isOpen := true }).length = o2.length from List.length_set)
  have HSS := aq_ (show (o2.set i { x with isOpen := true }).set i { { x with isOpen := true } with last := now } = o2.set i { { x with isOpen := true } with last := now } from List.set_set ..)
  have hi2 : (i : Int) ≤ 1000000 := by omega
  have hi3 : (i : Int) < (o2.length : Int) := by omega
  cases hop : x.isOpen with
  | true =>
   rw [hop, if_pos rfl] at h
   cases h
   have HOP := aq_ hop
   clear hop hf hx ho hl
   go_enter Tryz.func86, Tryz.ntmps86
   go_wp2_with (go_at_call 102; (with_reducible refine (old_prove d idle now _ A c _ HR.out HC.out HL.out (i : Int) _ 0 HD.out).mono ?_); rintro e w1 ⟨v, rfl, ho, hb⟩; obtain ⟨g, cap, rfl, _, _, _⟩ := Kd.R_form ho (Nat.lt_of_le_of_lt (Nat.zero_le _) HI.out); obtain ⟨q0, q1, q2, q3, q4⟩ := own_at ho HI.out HX.out; rw [HOP.out] at q0; have HO := aq_ ho; have HB := aq_ hb; clear ho hb)
   go_ret2
   exact ⟨_, rfl, told_O HO.out, HB.out⟩
  | false =>
   rw [hop, if_neg (by decide)] at h
   cases h
   have HOP := aq_ hop
   clear hop hf hx ho hl
   go_enter Tryz.func86, Tryz.ntmps86
   go_wp2_with (first
    | (go_at_call 102; (with_reducible refine (old_prove d idle now _ A c _ HR.out HC.out HL.out (i : Int) _ 0 HD.out).mono ?_); rintro e w1 ⟨v, rfl, ho, hb⟩; obtain ⟨g, cap, rfl, _, _, _⟩ := Kd.R_form ho (Nat.lt_of_le_of_lt (Nat.zero_le _) HI.out); obtain ⟨q0, q1, q2, q3, q4⟩ := own_at ho HI.out HX.out; rw [HOP.out] at q0; have HO := aq_ ho; have HB := aq_ hb; clear ho hb)
    | ((with_reducible refine gate_store2 4 (.tmp 40) (.const (.bool true)) rfl ?_); refine store_F (w0 := w) 4 (.tmp 40) (.const (.bool true)) rfl rfl rfl (by kernel_rfl) i 36 _ x { x with isOpen := true } (.bool true) rfl (by simp) rfl rfl rfl HO.out HI.out HX.out (by decide) (scl_open x true) HB.out ?_; clear q0 q1 q2 q3 q4; intro w2 ho hb; have HO2 := aq_ ho; have HB2 := aq_ hb; clear ho hb)
    | ((with_reducible refine gate_store2 3 (.tmp 42) (.tmp 38) rfl ?_); refine store_F (w0 := w) 3 (.tmp 42) (.tmp 38) rfl rfl rfl (by kernel_rfl) i 38 _ { x with isOpen := true } { { x with isOpen := true } with last := now } (.int .i64 now) rfl (by simp) rfl rfl rfl HO2.out HI.out HXS.out (by decide) (scl_last _ now) HB2.out ?_; intro w3 ho hb; have HO3 := aq_ ho; have HB3 := aq_ hb; clear ho hb))
   go_ret2
   refine ⟨_, rfl, ?_, HB3.out⟩
   have h := HO3.out
   rw [HSS.out] at h
   exact told_O h
 ·rw [if_neg h3] at h
  cases h
  have h3b : (r2 == 0) = false := by simpa using h3
  have h3c : (r2 != 0) = true := by simpa using h3
  clear h3 hl ho
  go_enter Tryz.func86, Tryz.ntmps86
  go_wp2_with (go_at_call 102; (with_reducible refine (old_prove d idle now l A c _ HR.out HC.out HL.out o1 r1 r2 HD.out).mono ?_); rintro e w1 ⟨v, rfl, ho, hb⟩; have HO := aq_ ho; have HB := aq_ hb; clear ho hb)
  go_ret2
  exact ⟨_, rfl, told_O HO.out, HB.out⟩
set_option maxHeartbeats 2000000 in
set_option maxRecDepth 100000 in
theorem use_any (d count idle now : Int) (l : List Ses) (A : Option Addr) (c : Nat) (w : World) (hr : kS.C w A l.length l) (hc : l.length ≤ c) (hl : l.length < 1000000) (r1 : List Ses) (r2 : Int) (h : useS l d count idle now = (r1, r2)) :
  Calls Tryz.prog 87 #[.slice A l.length c, .int .u64 d, .int .u64 count, .int .i64 idle, .int .i64 now] w fun e w' => ∃ v : Value, e = .returned (.tuple #[v, .int .i64 r2]) ∧ ToldO w.heap.size w' v r1 ∧ Below w.heap.size w w' := by
 have HR := aq_ hr
 have HC := aq_ hc
 have HL := aq_ hl
 obtain ⟨⟨o1, o2, o3⟩, ho⟩ : ∃ o, oldS (fun x => x.isOpen) l d idle now = o := ⟨_, rfl⟩
 have HD := aq_ ho
 unfold useS at h
 rw [ho] at h
 simp only [] at h
 clear hr hc
 by_cases h3 : o3 = 0
 ·rw [if_pos h3] at h
  obtain ⟨i, x, rfl, rfl, hf, hx, hz1, hz2, hz3, hz4⟩ := oldS_ok ho h3
  clear hz1 hz2 hz3 hz4
  subst h3
  have hi : i < o2.length := (List.getElem?_eq_some_iff.1 hx).1
  rw [Int.toNat_natCast, hx] at h
  simp only [] at h
  have HX := aq_ hx
  have HI := aq_ hi
  have HXS := aq_ (show (o2.set i { x with count := count })[i]? = some { x with count := count } by rw [List.getElem?_set_self hi])
  have HSS := aq_ (show (o2.set i { x with count := count }).set i { { x with count := count } with last := now } = o2.set i { { x with count := count } with last := now } from List.set_set ..)
  have hi2 : (i : Int) ≤ 1000000 := by omega
  have hi3 : (i : Int) < (o2.length : Int) := by omega
  by_cases hcnt : count ≤ x.count
  ·rw [if_pos hcnt] at h
   cases h
   have hd1 : decide (count ≤ x.count) = true := decide_eq_true hcnt
   clear hcnt hf hx ho hl
   go_enter Tryz.func87, Tryz.ntmps87
   go_wp2_with (go_at_call 102; (with_reducible refine (old_use d idle now _ A c _ HR.out HC.out HL.out (i : Int) _ 0 HD.out).mono ?_); rintro e w1 ⟨v, rfl, ho, hb⟩; obtain ⟨g, cap, rfl, _, _, _⟩ := Kd.R_form ho (Nat.lt_of_le_of_lt (Nat.zero_le _) HI.out); obtain ⟨q0, q1, q2, q3, q4⟩ := own_at ho HI.out HX.out; have HO := aq_ ho; have HB := aq_ hb; clear ho hb)
   go_ret2
   exact ⟨_, rfl, told_O HO.out, HB.out⟩
  ·rw [if_neg hcnt] at h
   have hd1 : decide (count ≤ x.count) = false := decide_eq_false hcnt
   have hd1' : x.count < count := by omega
   by_cases hmx : count = 18446744073709551615
   ·rw [if_pos hmx] at h
    cases h
    have hd2 : (count == 18446744073709551615) = true := by simpa using hmx
    clear hcnt hf hx ho hl hmx hd1
    go_enter Tryz.func87, Tryz.ntmps87
    go_wp2_with (first
     | (go_at_call 102; (with_reducible refine (old_use d idle now _ A c _ HR.out HC.out HL.out (i : Int) _ 0 HD.out).mono ?_); rintro e w1 ⟨v, rfl, ho, hb⟩; obtain ⟨g, cap, rfl, _, _, _⟩ := Kd.R_form ho (Nat.lt_of_le_of_lt (Nat.zero_le _) HI.out); obtain ⟨q0, q1, q2, q3, q4⟩ := own_at ho HI.out HX.out; have HO := aq_ ho; have HB := aq_ hb; clear ho hb)
     | (go_at_call 105; (with_reducible refine (delete_any i _ g cap w.heap.size _ HO.out HI.out HB.out.size).mono ?_); rintro e w2 ⟨rfl, ho, hb⟩; have HO2 := aq_ ho; have HB2 := aq_ (HB.out.trans hb); clear ho hb q0 q1 q2 q3 q4))
    go_ret2
    exact ⟨_, rfl, told_O HO2.out, HB2.out⟩
   ·rw [if_neg hmx] at h
    cases h
    have hd2 : (count == 18446744073709551615) = false := by simpa using hmx
    clear hcnt hf hx ho hl hmx hd1
    go_enter Tryz.func87, Tryz.ntmps87
    go_wp2_with (first
     | (go_at_call 102; (with_reducible refine (old_use d idle now _ A c _ HR.out HC.out HL.out (i : Int) _ 0 HD.out).mono ?_); rintro e w1 ⟨v, rfl, ho, hb⟩; obtain ⟨g, cap, rfl, _, _, _⟩ := Kd.R_form ho (Nat.lt_of_le_of_lt (Nat.zero_le _) HI.out); obtain ⟨q0, q1, q2, q3, q4⟩ := own_at ho HI.out HX.out; have HO := aq_ ho; have HB := aq_ hb; clear ho hb)
     | ((with_reducible refine gate_store2 27 (.tmp 53) (.tmp 50) rfl ?_); refine store_F (w0 := w) 27 (.tmp 53) (.tmp 50) rfl rfl rfl (by kernel_rfl) i 37 _ x { x with count := count } (.int .u64 count) rfl (by simp) rfl rfl rfl HO.out HI.out HX.out (by decide) (scl_count x count) HB.out ?_; clear q0 q1 q2 q3 q4; intro w2 ho hb; have HO2 := aq_ ho; have HB2 := aq_ hb; clear ho hb)
     | ((with_reducible refine gate_store2 3 (.tmp 55) (.tmp 51) rfl ?_); refine store_F (w0 := w) 3 (.tmp 55) (.tmp 51) rfl rfl rfl (by kernel_rfl) i 38 _ { x with count := count } { { x with count := count } with last := now } (.int .i64 now) rfl (by simp) rfl rfl rfl HO2.out HI.out HXS.out (by decide) (scl_last _ now) HB2.out ?_; intro w3 ho hb; have HO3 := aq_ ho; have HB3 := aq_ hb; clear ho hb))
    go_ret2
    refine ⟨_, rfl, ?_, HB3.out⟩
    have h := HO3.out
    rw [HSS.out] at h
    exact told_O h
 ·rw [if_neg h3] at h
  cases h
  have h3b : (r2 == 0) = false := by simpa using h3
  have h3c : (r2 != 0) = true := by simpa using h3
  clear h3 hl ho
  go_enter Tryz.func87, Tryz.ntmps87
  go_wp2_with (go_at_call 102; (with_reducible refine (old_use d idle now l A c _ HR.out HC.out HL.out o1 r1 r2 HD.out).mono ?_); rintro e w1 ⟨v, rfl, ho, hb⟩; have HO := aq_ ho; have HB := aq_ hb; clear ho hb)
  go_ret2
  exact ⟨_, rfl, told_O HO.out, HB.out⟩
end Go.Proofs.YtdinphnljokigaaGreat.P
end
