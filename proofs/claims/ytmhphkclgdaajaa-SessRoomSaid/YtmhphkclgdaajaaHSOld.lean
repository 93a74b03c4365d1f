/- sess.old at its two closures. Printed by genold.py. -/
import Derived.Test.YtmhphkclgdaajaaHSDrop
namespace Go.Proofs.Ytmhphkclgdaajaa.P
open Go.RowKit Go.Lib Go.Proofs.YtmhphkclgdaajaaW.PrintWords Go.Proofs.YtmhphkclgdaajaaW.PrintLast Go.Proofs.YtmhphkclgdaajaaW.PrintMore
set_option linter.unusedVariables false
set_option linter.unusedSimpArgs false
section
variable {ops : Array Oper} {rest : List Oper} {o : Oper} {a : Act} {w : World} {Q : Exit → Act → World → Prop}
theorem gate_load (t : TypeId) (x : Operand) (_ho : o.op = .load t x) (h : wpList Try.prog ops Q (o :: rest) a w) : wpList Try.prog ops Q (o :: rest) a w := h
theorem load_Sw (x : Operand) (ho : o.op = .load 35 x) (hw : Region.wanted o (yielded ops a.tmps) = true) {p : Addr} (hx : a.eval x = .pointer (some p)) {s : Ses} (hc : ∀ j v, (scl s)[j]? = some v → w.cell? (p.add j) = some v)
    (h : wpList Try.prog ops Q rest (a.put o.dst (.agg (sca s))) w) : wpList Try.prog ops Q (o :: rest) a w :=
  gate_guard hw (load_S (o := { o with guard := none }) x ho rfl hx hc h)
end
/-- What sess.old answers. -/
def oldS (p : Ses → Bool) (l : List Ses) (d idle now : Int) : Int × List Ses × Int :=
  if mayS l = false ∨ timesB idle now = false then (-1, l, 1)
  else match l[(findS l d).toNat]? with
    | none => (-1, l, 5)
    | some x => if findS l d = -1 ∨ p x = false then (-1, l, 5) else if lateB x idle now = true then (-1, l.eraseIdx (findS l d).toNat, 9) else (findS l d, l, 0)
/-- A session of a row, in every world that has it. -/
theorem all_S {w : World} {A : Option Addr} {l : List Ses} (h : kS.C w A l.length l) {i : Nat} (hi : i < l.length) {x : Ses} (hx : l[i]? = some x) :
    ∃ ad, A = some ad ∧ ∀ w1, Below w.heap.size w w1 → ∀ j v, (scl x)[j]? = some v → w1.cell? ((ad.add (i * 39)).add j) = some v := by
  obtain ⟨ad, e, _⟩ := at_S h i hi x hx
  refine ⟨ad, e, fun w1 hb => ?_⟩
  obtain ⟨ad', e', hc, _⟩ := at_S (Kd.C_below h hb) i hi x hx
  rw [e] at e'
  cases e'
  exact hc
set_option maxHeartbeats 2000000 in
set_option maxRecDepth 100000 in
theorem old_use (d idle now : Int) (l : List Ses) (A : Option Addr) (c : Nat) (w : World) (hr : kS.C w A l.length l) (hc : l.length ≤ c) (hl : l.length < 1000000) (r1 : Int) (r2 : List Ses) (r3 : Int) (h : oldS (fun x => x.isOpen) l d idle now = (r1, r2, r3)) :
    Calls Try.prog 27 #[.slice A l.length c, .int .u64 d, .int .i64 idle, .int .i64 now, .func (.func 28) #[] #[]] w fun e w' => ∃ v : Value, e = .returned (.tuple #[.int .i64 r1, v, .int .i64 r3]) ∧ kS.R 35 w' w.heap.size (fun _ => True) v r2 ∧ Below w.heap.size w w' := by
  have HR := Aside0.mk hr
  have HC := Aside0.mk hc
  have HL := Aside0.mk hl
  clear hc hl
  unfold oldS at h
  cases hm : mayS l with
  | false =>
    rw [if_pos (.inl hm)] at h
    cases h
    have HM := Aside0.mk hm
    clear hm hr
    go_enter Try.func27, Try.ntmps27
    go_wp2_with (first
      | (go_at_call 34; (with_reducible refine (clone_any l A c _ HR.out HL.out).mono ?_); rintro e w1 ⟨v, rfl, ho, hb⟩; have HO := Aside0.mk ho; have HB := Aside0.mk hb; clear ho hb)
      | (go_at_call 13; (with_reducible refine (mayL_any l A c _ (Kd.C_below HR.out HB.out) HC.out).mono ?_); rintro e w1 ⟨he_, hb⟩; rw [HM.out] at he_; subst he_; have HO := Aside0.mk (Kd.R_below HO.out hb); have HB := Aside0.mk (below_step HB.out hb); clear hb))
    go_ret3
    exact ⟨_, rfl, HO.out, HB.out⟩
  | true =>
  have HM := Aside0.mk hm
  cases ht : timesB idle now with
  | false =>
    rw [if_pos (.inr ht)] at h
    cases h
    have HT := Aside0.mk ht
    clear hm ht hr
    go_enter Try.func27, Try.ntmps27
    go_wp2_with (first
      | (go_at_call 34; (with_reducible refine (clone_any l A c _ HR.out HL.out).mono ?_); rintro e w1 ⟨v, rfl, ho, hb⟩; have HO := Aside0.mk ho; have HB := Aside0.mk hb; clear ho hb)
      | (go_at_call 13; (with_reducible refine (mayL_any l A c _ (Kd.C_below HR.out HB.out) HC.out).mono ?_); rintro e w1 ⟨he_, hb⟩; rw [HM.out] at he_; subst he_; have HO := Aside0.mk (Kd.R_below HO.out hb); have HB := Aside0.mk (below_step HB.out hb); clear hb)
      | (go_at_call 33; (with_reducible refine (times_any idle now _).mono ?_); rintro e w1 ⟨he_, rfl⟩; rw [HT.out] at he_; subst he_))
    go_ret3
    exact ⟨_, rfl, HO.out, HB.out⟩
  | true =>
  have HT := Aside0.mk ht
  rw [if_neg (by rw [hm, ht]; simp)] at h
  clear hm ht
  have hge := findS_ge l d
  obtain ⟨r, hr0⟩ : ∃ r, findS l d = r := ⟨_, rfl⟩
  have HF := Aside0.mk hr0
  rw [hr0] at h hge
  clear hr0
  by_cases hn : r = -1
  · subst hn
    have h : ((-1 : Int), l, (5 : Int)) = (r1, r2, r3) := by
      split at h
      · exact h
      · rw [if_pos (.inl rfl)] at h
        exact h
    cases h
    clear hge hr
    go_enter Try.func27, Try.ntmps27
    go_wp2_with (first
      | (go_at_call 34; (with_reducible refine (clone_any l A c _ HR.out HL.out).mono ?_); rintro e w1 ⟨v, rfl, ho, hb⟩; have HO := Aside0.mk ho; have HB := Aside0.mk hb; clear ho hb)
      | (go_at_call 13; (with_reducible refine (mayL_any l A c _ (Kd.C_below HR.out HB.out) HC.out).mono ?_); rintro e w1 ⟨he_, hb⟩; rw [HM.out] at he_; subst he_; have HO := Aside0.mk (Kd.R_below HO.out hb); have HB := Aside0.mk (below_step HB.out hb); clear hb)
      | (go_at_call 33; (with_reducible refine (times_any idle now _).mono ?_); rintro e w1 ⟨he_, rfl⟩; rw [HT.out] at he_; subst he_)
      | (go_at_call 12; (with_reducible refine (find_any d l A c _ (Kd.C_below HR.out HB.out)).mono ?_); rintro e w1 ⟨he_, hb⟩; rw [HF.out] at he_; subst he_; have HO := Aside0.mk (Kd.R_below HO.out hb); have HB := Aside0.mk (below_step HB.out hb); clear hb))
    go_ret3
    exact ⟨_, rfl, HO.out, HB.out⟩
  obtain ⟨i, rfl⟩ : ∃ i : Nat, r = i := ⟨r.toNat, by omega⟩
  have hi : i < l.length := by omega
  obtain ⟨x, hx⟩ : ∃ x, l[i]? = some x := ⟨_, List.getElem?_eq_getElem hi⟩
  rw [Int.toNat_natCast, hx] at h
  simp only [] at h
  obtain ⟨ad, e0, hall⟩ := all_S hr hi hx
  subst e0
  have HX := Aside0.mk hall
  have HI := Aside0.mk hi
  have hf : ((i : Int) == -1) = false := by simp
  have hi2 : (i : Int) ≤ 1000000 := by have := HL.out; omega
  cases hp : (fun x => x.isOpen : Ses → Bool) x with
  | false =>
    rw [if_pos (.inr hp)] at h
    cases h
    have HP := Aside0.mk hp
    clear hge hn hr hall hp hx
    go_enter Try.func27, Try.ntmps27
    go_wp2_with (first
      | (go_at_call 34; (with_reducible refine (clone_any l (some ad) c _ HR.out HL.out).mono ?_); rintro e w1 ⟨v, rfl, ho, hb⟩; have HO := Aside0.mk ho; have HB := Aside0.mk hb; clear ho hb)
      | (go_at_call 13; (with_reducible refine (mayL_any l (some ad) c _ (Kd.C_below HR.out HB.out) HC.out).mono ?_); rintro e w1 ⟨he_, hb⟩; rw [HM.out] at he_; subst he_; have HO := Aside0.mk (Kd.R_below HO.out hb); have HB := Aside0.mk (below_step HB.out hb); clear hb)
      | (go_at_call 33; (with_reducible refine (times_any idle now _).mono ?_); rintro e w1 ⟨he_, rfl⟩; rw [HT.out] at he_; subst he_)
      | (go_at_call 12; (with_reducible refine (find_any d l (some ad) c _ (Kd.C_below HR.out HB.out)).mono ?_); rintro e w1 ⟨he_, hb⟩; rw [HF.out] at he_; subst he_; have HO := Aside0.mk (Kd.R_below HO.out hb); have HB := Aside0.mk (below_step HB.out hb); clear hb)
      | ((with_reducible refine gate_load 35 (.tmp 36) rfl ?_); refine load_Sw (.tmp 36) rfl (by rfl) (p := ad.add (i * 39)) rfl (HX.out _ HB.out) ?_)
      | (go_at_call 28; (with_reducible refine (use1_any x _).mono ?_); rintro e w1 ⟨he_, hb⟩; (try rw [HP.out] at he_); subst he_; have HO := Aside0.mk (Kd.R_below HO.out hb); have HB := Aside0.mk (below_step HB.out hb); clear hb))
    go_ret3
    exact ⟨_, rfl, HO.out, HB.out⟩
  | true =>
  have HP := Aside0.mk hp
  rw [if_neg (fun h2 => h2.elim hn (fun h2 => absurd (h2.symm.trans hp) (by decide)))] at h
  cases hla : lateB x idle now with
  | true =>
    rw [if_pos hla] at h
    cases h
    have HLA := Aside0.mk hla
    clear hge hn hr hall hp hla hx
    go_enter Try.func27, Try.ntmps27
    go_wp2_with (first
      | (go_at_call 34; (with_reducible refine (clone_any l (some ad) c _ HR.out HL.out).mono ?_); rintro e w1 ⟨v, rfl, ho, hb⟩; obtain ⟨g, cap, rfl, _, _, _⟩ := Kd.R_form ho (Nat.lt_of_le_of_lt (Nat.zero_le _) HI.out); have HO := Aside0.mk ho; have HB := Aside0.mk hb; clear ho hb)
      | (go_at_call 13; (with_reducible refine (mayL_any l (some ad) c _ (Kd.C_below HR.out HB.out) HC.out).mono ?_); rintro e w1 ⟨he_, hb⟩; rw [HM.out] at he_; subst he_; have HO := Aside0.mk (Kd.R_below HO.out hb); have HB := Aside0.mk (below_step HB.out hb); clear hb)
      | (go_at_call 33; (with_reducible refine (times_any idle now _).mono ?_); rintro e w1 ⟨he_, rfl⟩; rw [HT.out] at he_; subst he_)
      | (go_at_call 12; (with_reducible refine (find_any d l (some ad) c _ (Kd.C_below HR.out HB.out)).mono ?_); rintro e w1 ⟨he_, hb⟩; rw [HF.out] at he_; subst he_; have HO := Aside0.mk (Kd.R_below HO.out hb); have HB := Aside0.mk (below_step HB.out hb); clear hb)
      | ((with_reducible refine gate_load 35 (.tmp 36) rfl ?_); refine load_Sw (.tmp 36) rfl (by rfl) (p := ad.add (i * 39)) rfl (HX.out _ HB.out) ?_)
      | (go_at_call 28; (with_reducible refine (use1_any x _).mono ?_); rintro e w1 ⟨he_, hb⟩; (try rw [HP.out] at he_); subst he_; have HO := Aside0.mk (Kd.R_below HO.out hb); have HB := Aside0.mk (below_step HB.out hb); clear hb)
      | (with_reducible refine load_S (.tmp 44) rfl rfl (p := ad.add (i * 39)) rfl (HX.out _ HB.out) ?_)
      | (go_at_call 14; (with_reducible refine (late_any x idle now _).mono ?_); rintro e w1 ⟨he_, hb⟩; rw [HLA.out] at he_; subst he_; have HO := Aside0.mk (Kd.R_below HO.out hb); have HB := Aside0.mk (below_step HB.out hb); clear hb)
      | (go_at_call 29; (with_reducible refine (delete_any i l g cap w.heap.size _ HO.out HI.out HB.out.size).mono ?_); rintro e w2 ⟨rfl, ho, hb⟩; have HO2 := Aside0.mk ho; have HB2 := Aside0.mk (HB.out.trans hb); clear ho hb))
    go_ret3
    exact ⟨_, rfl, HO2.out, HB2.out⟩
  | false =>
    rw [if_neg (by rw [hla]; decide)] at h
    cases h
    have HLA := Aside0.mk hla
    clear hge hn hr hall hp hla hx
    go_enter Try.func27, Try.ntmps27
    go_wp2_with (first
      | (go_at_call 34; (with_reducible refine (clone_any l (some ad) c _ HR.out HL.out).mono ?_); rintro e w1 ⟨v, rfl, ho, hb⟩; have HO := Aside0.mk ho; have HB := Aside0.mk hb; clear ho hb)
      | (go_at_call 13; (with_reducible refine (mayL_any l (some ad) c _ (Kd.C_below HR.out HB.out) HC.out).mono ?_); rintro e w1 ⟨he_, hb⟩; rw [HM.out] at he_; subst he_; have HO := Aside0.mk (Kd.R_below HO.out hb); have HB := Aside0.mk (below_step HB.out hb); clear hb)
      | (go_at_call 33; (with_reducible refine (times_any idle now _).mono ?_); rintro e w1 ⟨he_, rfl⟩; rw [HT.out] at he_; subst he_)
      | (go_at_call 12; (with_reducible refine (find_any d l (some ad) c _ (Kd.C_below HR.out HB.out)).mono ?_); rintro e w1 ⟨he_, hb⟩; rw [HF.out] at he_; subst he_; have HO := Aside0.mk (Kd.R_below HO.out hb); have HB := Aside0.mk (below_step HB.out hb); clear hb)
      | ((with_reducible refine gate_load 35 (.tmp 36) rfl ?_); refine load_Sw (.tmp 36) rfl (by rfl) (p := ad.add (i * 39)) rfl (HX.out _ HB.out) ?_)
      | (go_at_call 28; (with_reducible refine (use1_any x _).mono ?_); rintro e w1 ⟨he_, hb⟩; (try rw [HP.out] at he_); subst he_; have HO := Aside0.mk (Kd.R_below HO.out hb); have HB := Aside0.mk (below_step HB.out hb); clear hb)
      | (with_reducible refine load_S (.tmp 44) rfl rfl (p := ad.add (i * 39)) rfl (HX.out _ HB.out) ?_)
      | (go_at_call 14; (with_reducible refine (late_any x idle now _).mono ?_); rintro e w1 ⟨he_, hb⟩; rw [HLA.out] at he_; subst he_; have HO := Aside0.mk (Kd.R_below HO.out hb); have HB := Aside0.mk (below_step HB.out hb); clear hb))
    go_ret3
    exact ⟨_, rfl, HO.out, HB.out⟩
set_option maxHeartbeats 2000000 in
set_option maxRecDepth 100000 in
theorem old_prove (d idle now : Int) (l : List Ses) (A : Option Addr) (c : Nat) (w : World) (hr : kS.C w A l.length l) (hc : l.length ≤ c) (hl : l.length < 1000000) (r1 : Int) (r2 : List Ses) (r3 : Int) (h : oldS (fun _ => true) l d idle now = (r1, r2, r3)) :
    Calls Try.prog 27 #[.slice A l.length c, .int .u64 d, .int .i64 idle, .int .i64 now, .func (.func 39) #[] #[]] w fun e w' => ∃ v : Value, e = .returned (.tuple #[.int .i64 r1, v, .int .i64 r3]) ∧ kS.R 35 w' w.heap.size (fun _ => True) v r2 ∧ Below w.heap.size w w' := by
  have HR := Aside0.mk hr
  have HC := Aside0.mk hc
  have HL := Aside0.mk hl
  clear hc hl
  unfold oldS at h
  cases hm : mayS l with
  | false =>
    rw [if_pos (.inl hm)] at h
    cases h
    have HM := Aside0.mk hm
    clear hm hr
    go_enter Try.func27, Try.ntmps27
    go_wp2_with (first
      | (go_at_call 34; (with_reducible refine (clone_any l A c _ HR.out HL.out).mono ?_); rintro e w1 ⟨v, rfl, ho, hb⟩; have HO := Aside0.mk ho; have HB := Aside0.mk hb; clear ho hb)
      | (go_at_call 13; (with_reducible refine (mayL_any l A c _ (Kd.C_below HR.out HB.out) HC.out).mono ?_); rintro e w1 ⟨he_, hb⟩; rw [HM.out] at he_; subst he_; have HO := Aside0.mk (Kd.R_below HO.out hb); have HB := Aside0.mk (below_step HB.out hb); clear hb))
    go_ret3
    exact ⟨_, rfl, HO.out, HB.out⟩
  | true =>
  have HM := Aside0.mk hm
  cases ht : timesB idle now with
  | false =>
    rw [if_pos (.inr ht)] at h
    cases h
    have HT := Aside0.mk ht
    clear hm ht hr
    go_enter Try.func27, Try.ntmps27
    go_wp2_with (first
      | (go_at_call 34; (with_reducible refine (clone_any l A c _ HR.out HL.out).mono ?_); rintro e w1 ⟨v, rfl, ho, hb⟩; have HO := Aside0.mk ho; have HB := Aside0.mk hb; clear ho hb)
      | (go_at_call 13; (with_reducible refine (mayL_any l A c _ (Kd.C_below HR.out HB.out) HC.out).mono ?_); rintro e w1 ⟨he_, hb⟩; rw [HM.out] at he_; subst he_; have HO := Aside0.mk (Kd.R_below HO.out hb); have HB := Aside0.mk (below_step HB.out hb); clear hb)
      | (go_at_call 33; (with_reducible refine (times_any idle now _).mono ?_); rintro e w1 ⟨he_, rfl⟩; rw [HT.out] at he_; subst he_))
    go_ret3
    exact ⟨_, rfl, HO.out, HB.out⟩
  | true =>
  have HT := Aside0.mk ht
  rw [if_neg (by rw [hm, ht]; simp)] at h
  clear hm ht
  have hge := findS_ge l d
  obtain ⟨r, hr0⟩ : ∃ r, findS l d = r := ⟨_, rfl⟩
  have HF := Aside0.mk hr0
  rw [hr0] at h hge
  clear hr0
  by_cases hn : r = -1
  · subst hn
    have h : ((-1 : Int), l, (5 : Int)) = (r1, r2, r3) := by
      split at h
      · exact h
      · rw [if_pos (.inl rfl)] at h
        exact h
    cases h
    clear hge hr
    go_enter Try.func27, Try.ntmps27
    go_wp2_with (first
      | (go_at_call 34; (with_reducible refine (clone_any l A c _ HR.out HL.out).mono ?_); rintro e w1 ⟨v, rfl, ho, hb⟩; have HO := Aside0.mk ho; have HB := Aside0.mk hb; clear ho hb)
      | (go_at_call 13; (with_reducible refine (mayL_any l A c _ (Kd.C_below HR.out HB.out) HC.out).mono ?_); rintro e w1 ⟨he_, hb⟩; rw [HM.out] at he_; subst he_; have HO := Aside0.mk (Kd.R_below HO.out hb); have HB := Aside0.mk (below_step HB.out hb); clear hb)
      | (go_at_call 33; (with_reducible refine (times_any idle now _).mono ?_); rintro e w1 ⟨he_, rfl⟩; rw [HT.out] at he_; subst he_)
      | (go_at_call 12; (with_reducible refine (find_any d l A c _ (Kd.C_below HR.out HB.out)).mono ?_); rintro e w1 ⟨he_, hb⟩; rw [HF.out] at he_; subst he_; have HO := Aside0.mk (Kd.R_below HO.out hb); have HB := Aside0.mk (below_step HB.out hb); clear hb))
    go_ret3
    exact ⟨_, rfl, HO.out, HB.out⟩
  obtain ⟨i, rfl⟩ : ∃ i : Nat, r = i := ⟨r.toNat, by omega⟩
  have hi : i < l.length := by omega
  obtain ⟨x, hx⟩ : ∃ x, l[i]? = some x := ⟨_, List.getElem?_eq_getElem hi⟩
  rw [Int.toNat_natCast, hx] at h
  simp only [] at h
  obtain ⟨ad, e0, hall⟩ := all_S hr hi hx
  subst e0
  have HX := Aside0.mk hall
  have HI := Aside0.mk hi
  have hf : ((i : Int) == -1) = false := by simp
  have hi2 : (i : Int) ≤ 1000000 := by have := HL.out; omega
  cases hp : (fun _ => true : Ses → Bool) x with
  | false => exact absurd hp (by simp)
  | true =>
  have HP := Aside0.mk hp
  rw [if_neg (fun h2 => h2.elim hn (fun h2 => absurd (h2.symm.trans hp) (by decide)))] at h
  cases hla : lateB x idle now with
  | true =>
    rw [if_pos hla] at h
    cases h
    have HLA := Aside0.mk hla
    clear hge hn hr hall hp hla hx
    go_enter Try.func27, Try.ntmps27
    go_wp2_with (first
      | (go_at_call 34; (with_reducible refine (clone_any l (some ad) c _ HR.out HL.out).mono ?_); rintro e w1 ⟨v, rfl, ho, hb⟩; obtain ⟨g, cap, rfl, _, _, _⟩ := Kd.R_form ho (Nat.lt_of_le_of_lt (Nat.zero_le _) HI.out); have HO := Aside0.mk ho; have HB := Aside0.mk hb; clear ho hb)
      | (go_at_call 13; (with_reducible refine (mayL_any l (some ad) c _ (Kd.C_below HR.out HB.out) HC.out).mono ?_); rintro e w1 ⟨he_, hb⟩; rw [HM.out] at he_; subst he_; have HO := Aside0.mk (Kd.R_below HO.out hb); have HB := Aside0.mk (below_step HB.out hb); clear hb)
      | (go_at_call 33; (with_reducible refine (times_any idle now _).mono ?_); rintro e w1 ⟨he_, rfl⟩; rw [HT.out] at he_; subst he_)
      | (go_at_call 12; (with_reducible refine (find_any d l (some ad) c _ (Kd.C_below HR.out HB.out)).mono ?_); rintro e w1 ⟨he_, hb⟩; rw [HF.out] at he_; subst he_; have HO := Aside0.mk (Kd.R_below HO.out hb); have HB := Aside0.mk (below_step HB.out hb); clear hb)
      | ((with_reducible refine gate_load 35 (.tmp 36) rfl ?_); refine load_Sw (.tmp 36) rfl (by rfl) (p := ad.add (i * 39)) rfl (HX.out _ HB.out) ?_)
      | (go_at_call 39; (with_reducible refine (prove1_any x _).mono ?_); rintro e w1 ⟨he_, hb⟩; (try rw [HP.out] at he_); subst he_; have HO := Aside0.mk (Kd.R_below HO.out hb); have HB := Aside0.mk (below_step HB.out hb); clear hb)
      | (with_reducible refine load_S (.tmp 44) rfl rfl (p := ad.add (i * 39)) rfl (HX.out _ HB.out) ?_)
      | (go_at_call 14; (with_reducible refine (late_any x idle now _).mono ?_); rintro e w1 ⟨he_, hb⟩; rw [HLA.out] at he_; subst he_; have HO := Aside0.mk (Kd.R_below HO.out hb); have HB := Aside0.mk (below_step HB.out hb); clear hb)
      | (go_at_call 29; (with_reducible refine (delete_any i l g cap w.heap.size _ HO.out HI.out HB.out.size).mono ?_); rintro e w2 ⟨rfl, ho, hb⟩; have HO2 := Aside0.mk ho; have HB2 := Aside0.mk (HB.out.trans hb); clear ho hb))
    go_ret3
    exact ⟨_, rfl, HO2.out, HB2.out⟩
  | false =>
    rw [if_neg (by rw [hla]; decide)] at h
    cases h
    have HLA := Aside0.mk hla
    clear hge hn hr hall hp hla hx
    go_enter Try.func27, Try.ntmps27
    go_wp2_with (first
      | (go_at_call 34; (with_reducible refine (clone_any l (some ad) c _ HR.out HL.out).mono ?_); rintro e w1 ⟨v, rfl, ho, hb⟩; have HO := Aside0.mk ho; have HB := Aside0.mk hb; clear ho hb)
      | (go_at_call 13; (with_reducible refine (mayL_any l (some ad) c _ (Kd.C_below HR.out HB.out) HC.out).mono ?_); rintro e w1 ⟨he_, hb⟩; rw [HM.out] at he_; subst he_; have HO := Aside0.mk (Kd.R_below HO.out hb); have HB := Aside0.mk (below_step HB.out hb); clear hb)
      | (go_at_call 33; (with_reducible refine (times_any idle now _).mono ?_); rintro e w1 ⟨he_, rfl⟩; rw [HT.out] at he_; subst he_)
      | (go_at_call 12; (with_reducible refine (find_any d l (some ad) c _ (Kd.C_below HR.out HB.out)).mono ?_); rintro e w1 ⟨he_, hb⟩; rw [HF.out] at he_; subst he_; have HO := Aside0.mk (Kd.R_below HO.out hb); have HB := Aside0.mk (below_step HB.out hb); clear hb)
      | ((with_reducible refine gate_load 35 (.tmp 36) rfl ?_); refine load_Sw (.tmp 36) rfl (by rfl) (p := ad.add (i * 39)) rfl (HX.out _ HB.out) ?_)
      | (go_at_call 39; (with_reducible refine (prove1_any x _).mono ?_); rintro e w1 ⟨he_, hb⟩; (try rw [HP.out] at he_); subst he_; have HO := Aside0.mk (Kd.R_below HO.out hb); have HB := Aside0.mk (below_step HB.out hb); clear hb)
      | (with_reducible refine load_S (.tmp 44) rfl rfl (p := ad.add (i * 39)) rfl (HX.out _ HB.out) ?_)
      | (go_at_call 14; (with_reducible refine (late_any x idle now _).mono ?_); rintro e w1 ⟨he_, hb⟩; rw [HLA.out] at he_; subst he_; have HO := Aside0.mk (Kd.R_below HO.out hb); have HB := Aside0.mk (below_step HB.out hb); clear hb))
    go_ret3
    exact ⟨_, rfl, HO.out, HB.out⟩
end Go.Proofs.Ytmhphkclgdaajaa.P
