/- pelicanref18.Prove, pelicanref18.Use. Printed by genref.py. -/
import Derived.Test.YtmhphkclgdaajaaHSUse
namespace Go.Proofs.Ytmhphkclgdaajaa.P
open Go.RowKit Go.Lib Go.Proofs.YtmhphkclgdaajaaW.PrintWords Go.Proofs.YtmhphkclgdaajaaW.PrintLast Go.Proofs.YtmhphkclgdaajaaW.PrintMore
set_option linter.unusedVariables false
set_option linter.unusedSimpArgs false
theorem oldS_1 {p : Ses → Bool} {l : List Ses} {d idle now : Int} (h : mayS l = false ∨ timesB idle now = false) : oldS p l d idle now = (-1, l, 1) := by
  unfold oldS
  rw [if_pos h]
section
variable {p : Ses → Bool} {l : List Ses} {d idle now : Int} (hm : mayS l = true) (ht : timesB idle now = true)
include hm ht
theorem oldS_5 (hf : findS l d = -1) : oldS p l d idle now = (-1, l, 5) := by
  unfold oldS
  rw [if_neg (by rw [hm, ht]; simp)]
  split
  · rfl
  · rw [if_pos (.inl hf)]
theorem oldS_5' {i : Nat} {x : Ses} (hf : findS l d = i) (hx : l[i]? = some x) (hp : p x = false) : oldS p l d idle now = (-1, l, 5) := by
  unfold oldS
  rw [if_neg (by rw [hm, ht]; simp), hf, Int.toNat_natCast, hx]
  simp only []
  rw [if_pos (.inr hp)]
theorem oldS_9 {i : Nat} {x : Ses} (hf : findS l d = i) (hx : l[i]? = some x) (hp : p x = true) (hl : lateB x idle now = true) : oldS p l d idle now = (-1, l.eraseIdx i, 9) := by
  unfold oldS
  rw [if_neg (by rw [hm, ht]; simp), hf, Int.toNat_natCast, hx]
  simp only []
  rw [if_neg (by rw [hp]; simp), if_pos hl]
theorem oldS_0 {i : Nat} {x : Ses} (hf : findS l d = i) (hx : l[i]? = some x) (hp : p x = true) (hl : lateB x idle now = false) : oldS p l d idle now = ((i : Int), l, 0) := by
  unfold oldS
  rw [if_neg (by rw [hm, ht]; simp), hf, Int.toNat_natCast, hx]
  simp only []
  rw [if_neg (by rw [hp]; simp), if_neg (by rw [hl]; decide)]
end
theorem proveS_no {l r : List Ses} {d idle now i e : Int} (h : oldS (fun _ => true) l d idle now = (i, r, e)) (he : e ≠ 0) : proveS l d idle now = (r, e) := by
  unfold proveS
  rw [h]
  simp only []
  rw [if_neg he]
theorem proveS_ok {l : List Ses} {d idle now : Int} {i : Nat} {x : Ses} (h : oldS (fun _ => true) l d idle now = ((i : Int), l, 0)) (hx : l[i]? = some x) : proveS l d idle now = if x.isOpen = true then (l, 6) else (l.set i { { x with isOpen := true } with last := now }, 0) := by
  unfold proveS
  rw [h]
  simp only [if_true, Int.toNat_natCast, hx]
theorem useS_no {l r : List Ses} {d count idle now i e : Int} (h : oldS (fun x => x.isOpen) l d idle now = (i, r, e)) (he : e ≠ 0) : useS l d count idle now = (r, e) := by
  unfold useS
  rw [h]
  simp only []
  rw [if_neg he]
theorem useS_ok {l : List Ses} {d count idle now : Int} {i : Nat} {x : Ses} (h : oldS (fun x => x.isOpen) l d idle now = ((i : Int), l, 0)) (hx : l[i]? = some x) : useS l d count idle now = if count ≤ x.count then (l, 8) else if count = 18446744073709551615 then (l.eraseIdx i, 0) else (l.set i { { x with count := count } with last := now }, 0) := by
  unfold useS
  rw [h]
  simp only [if_true, Int.toNat_natCast, hx]
set_option maxHeartbeats 2000000 in
set_option maxRecDepth 100000 in
theorem rprove_any (d idle now : Int) (l : List Ses) (A : Option Addr) (c : Nat) (w : World) (hr : kS.C w A l.length l) (hc : l.length ≤ c) (hl : l.length < 1000000) (r1 : List Ses) (r2 : Int) (h : proveS l d idle now = (r1, r2)) :
    Calls Try.prog 18 #[.slice A l.length c, .int .u64 d, .int .i64 idle, .int .i64 now] w fun e w' => ∃ v : Value, e = .returned (.tuple #[v, .int .i64 r2]) ∧ ToldS w' v r1 ∧ Below w.heap.size w w' := by
  have HR := Aside0.mk hr
  have HC := Aside0.mk hc
  have HL := Aside0.mk hl
  have HB := Aside0.mk (Below.refl w.heap.size w)
  clear hc
  cases hm : mayS l with
  | false =>
    rw [proveS_no (oldS_1 (.inl hm)) (by decide)] at h
    cases h
    have HM := Aside0.mk hm
    clear hm hr hl
    cases ht : timesB idle now
    all_goals
      have HT := Aside0.mk ht
      clear ht
      go_enter Try.func18, Try.ntmps18
      go_wp2_with (first
      | (go_at_call 23; (with_reducible refine (rmayL_any l A c _ (Kd.C_below HR.out HB.out) HC.out).mono ?_); rintro e w1 ⟨he_, hb⟩; rw [HM.out] at he_; subst he_; have HB := Aside0.mk (below_step HB.out hb); clear hb)
      | (go_at_call 37; (with_reducible refine (rtimes_any idle now _).mono ?_); rintro e w1 ⟨he_, rfl⟩; rw [HT.out] at he_; subst he_))
      go_ret2
      exact ⟨_, rfl, told_C (Kd.C_below HR.out HB.out) HC.out, HB.out⟩
  | true =>
  have HM := Aside0.mk hm
  cases ht : timesB idle now with
  | false =>
    rw [proveS_no (oldS_1 (.inr ht)) (by decide)] at h
    cases h
    have HT := Aside0.mk ht
    clear hm ht hr hl
    go_enter Try.func18, Try.ntmps18
    go_wp2_with (first
      | (go_at_call 23; (with_reducible refine (rmayL_any l A c _ (Kd.C_below HR.out HB.out) HC.out).mono ?_); rintro e w1 ⟨he_, hb⟩; rw [HM.out] at he_; subst he_; have HB := Aside0.mk (below_step HB.out hb); clear hb)
      | (go_at_call 37; (with_reducible refine (rtimes_any idle now _).mono ?_); rintro e w1 ⟨he_, rfl⟩; rw [HT.out] at he_; subst he_))
    go_ret2
    exact ⟨_, rfl, told_C (Kd.C_below HR.out HB.out) HC.out, HB.out⟩
  | true =>
  have HT := Aside0.mk ht
  have hge := findS_ge l d
  obtain ⟨r, hr0⟩ : ∃ r, findS l d = r := ⟨_, rfl⟩
  have HF := Aside0.mk hr0
  rw [hr0] at hge
  clear hr0
  by_cases hn : r = -1
  · subst hn
    rw [proveS_no (oldS_5 hm ht HF.out) (by decide)] at h
    cases h
    clear hge hr hl hm ht
    go_enter Try.func18, Try.ntmps18
    go_wp2_with (first
      | (go_at_call 23; (with_reducible refine (rmayL_any l A c _ (Kd.C_below HR.out HB.out) HC.out).mono ?_); rintro e w1 ⟨he_, hb⟩; rw [HM.out] at he_; subst he_; have HB := Aside0.mk (below_step HB.out hb); clear hb)
      | (go_at_call 37; (with_reducible refine (rtimes_any idle now _).mono ?_); rintro e w1 ⟨he_, rfl⟩; rw [HT.out] at he_; subst he_)
      | (go_at_call 26; (with_reducible refine (rfind_any d l A c _ (Kd.C_below HR.out HB.out)).mono ?_); rintro e w1 ⟨he_, rfl⟩; rw [HF.out] at he_; subst he_))
    go_ret2
    exact ⟨_, rfl, told_C (Kd.C_below HR.out HB.out) HC.out, HB.out⟩
  obtain ⟨i, rfl⟩ : ∃ i : Nat, r = i := ⟨r.toNat, by omega⟩
  have hi : i < l.length := by omega
  obtain ⟨x, hx⟩ : ∃ x, l[i]? = some x := ⟨_, List.getElem?_eq_getElem hi⟩
  obtain ⟨ad, e0, hall⟩ := all_S hr hi hx
  subst e0
  have HX := Aside0.mk hall
  have HX1 := Aside0.mk hx
  have HI := Aside0.mk hi
  have hi2 : (i : Int) ≤ 1000000 := by omega
  have hi3 : (i : Int) < (l.length : Int) := by omega
  have hi4 : decide ((i : Int) < 0) = false := by simp
  clear hge hr hall hn
  cases hla : lateB x idle now with
  | true =>
    rw [proveS_no (oldS_9 hm ht HF.out hx rfl hla) (by decide)] at h
    cases h
    have HLA := Aside0.mk hla
    clear hla hx hl hm ht
    go_enter Try.func18, Try.ntmps18
    go_wp2_with (first
      | (go_at_call 23; (with_reducible refine (rmayL_any l (some ad) c _ (Kd.C_below HR.out HB.out) HC.out).mono ?_); rintro e w1 ⟨he_, hb⟩; rw [HM.out] at he_; subst he_; have HB := Aside0.mk (below_step HB.out hb); clear hb)
      | (go_at_call 37; (with_reducible refine (rtimes_any idle now _).mono ?_); rintro e w1 ⟨he_, rfl⟩; rw [HT.out] at he_; subst he_)
      | (go_at_call 26; (with_reducible refine (rfind_any d l (some ad) c _ (Kd.C_below HR.out HB.out)).mono ?_); rintro e w1 ⟨he_, rfl⟩; rw [HF.out] at he_; subst he_)
      | (with_reducible refine load_S (.tmp 35) rfl rfl (p := ad.add (i * 39)) rfl (HX.out _ HB.out) ?_)
      | (go_at_call 24; (with_reducible refine (rlate_any x idle now _).mono ?_); rintro e w1 ⟨he_, hb⟩; rw [HLA.out] at he_; subst he_; have HB := Aside0.mk (below_step HB.out hb); clear hb)
      | (go_at_call 40; (with_reducible refine (without_any i l (some ad) c _ (Kd.C_below HR.out HB.out) HC.out HI.out HL.out).mono ?_); rintro e w2 ⟨v, rfl, ho, hb⟩; have HO2 := Aside0.mk ho; have HB2 := Aside0.mk (below_step HB.out hb); clear ho hb))
    go_ret2
    exact ⟨_, rfl, told_R HO2.out, HB2.out⟩
  | false =>
  rw [proveS_ok (oldS_0 hm ht HF.out hx rfl hla) hx] at h
  have HLA := Aside0.mk hla
  cases hop : x.isOpen with
  | true =>
    rw [hop, if_pos rfl] at h
    cases h
    have HOP := Aside0.mk hop
    clear hla hx hop hl hm ht
    go_enter Try.func18, Try.ntmps18
    go_wp2_with (first
      | (go_at_call 23; (with_reducible refine (rmayL_any l (some ad) c _ (Kd.C_below HR.out HB.out) HC.out).mono ?_); rintro e w1 ⟨he_, hb⟩; rw [HM.out] at he_; subst he_; have HB := Aside0.mk (below_step HB.out hb); clear hb)
      | (go_at_call 37; (with_reducible refine (rtimes_any idle now _).mono ?_); rintro e w1 ⟨he_, rfl⟩; rw [HT.out] at he_; subst he_)
      | (go_at_call 26; (with_reducible refine (rfind_any d l (some ad) c _ (Kd.C_below HR.out HB.out)).mono ?_); rintro e w1 ⟨he_, rfl⟩; rw [HF.out] at he_; subst he_)
      | (with_reducible refine load_S (.tmp 35) rfl rfl (p := ad.add (i * 39)) rfl (HX.out _ HB.out) ?_)
      | (go_at_call 24; (with_reducible refine (rlate_any x idle now _).mono ?_); rintro e w1 ⟨he_, hb⟩; rw [HLA.out] at he_; subst he_; have HB := Aside0.mk (below_step HB.out hb); clear hb; obtain ⟨ad_, e0_, _, _, _, _, _, x4, _⟩ := at_S (Kd.C_below HR.out HB.out) i HI.out x HX1.out; cases e0_; rw [HOP.out] at x4))
    go_ret2
    exact ⟨_, rfl, told_C (Kd.C_below HR.out HB.out) HC.out, HB.out⟩
  | false =>
    rw [hop, if_neg (by decide)] at h
    cases h
    have HOP := Aside0.mk hop
    have HXS := Aside0.mk (show (l.set i { x with isOpen := true })[i]? = some { x with isOpen := true } by rw [List.getElem?_set_self hi])
    have HSS := Aside0.mk (show (l.set i { x with isOpen := true }).set i { { x with isOpen := true } with last := now } = l.set i { { x with isOpen := true } with last := now } from List.set_set ..)
    clear hla hx hop hl hm ht
    go_enter Try.func18, Try.ntmps18
    go_wp2_with (first
      | (go_at_call 23; (with_reducible refine (rmayL_any l (some ad) c _ (Kd.C_below HR.out HB.out) HC.out).mono ?_); rintro e w1 ⟨he_, hb⟩; rw [HM.out] at he_; subst he_; have HB := Aside0.mk (below_step HB.out hb); clear hb)
      | (go_at_call 37; (with_reducible refine (rtimes_any idle now _).mono ?_); rintro e w1 ⟨he_, rfl⟩; rw [HT.out] at he_; subst he_)
      | (go_at_call 26; (with_reducible refine (rfind_any d l (some ad) c _ (Kd.C_below HR.out HB.out)).mono ?_); rintro e w1 ⟨he_, rfl⟩; rw [HF.out] at he_; subst he_)
      | (with_reducible refine load_S (.tmp 35) rfl rfl (p := ad.add (i * 39)) rfl (HX.out _ HB.out) ?_)
      | (go_at_call 24; (with_reducible refine (rlate_any x idle now _).mono ?_); rintro e w1 ⟨he_, hb⟩; rw [HLA.out] at he_; subst he_; have HB := Aside0.mk (below_step HB.out hb); clear hb; obtain ⟨ad_, e0_, _, _, _, _, _, x4, _⟩ := at_S (Kd.C_below HR.out HB.out) i HI.out x HX1.out; cases e0_; rw [HOP.out] at x4)
      | ((with_reducible refine gate_builtin (b := .append) (xs := #[.const (.slice none 0 0), .tmp 50]) rfl ?_); at_builtin; refine Kd.R_append_rows kS (w0 := w) w.heap.size rfl (.const (.slice none 0 0)) (.tmp 50) 22 35 (.agg (sca zses)) 88 rfl Try.underlying22 infoZ (sca_size _) (by decide) (by omega) (.slice none 0 0) ([] : List Ses) l _ _ _ (fun _ => True) (fun _ => False) rfl rfl (Kd.R_nil _ _ _ _ _) (Kd.C_below HR.out HB.out) (fun _ _ h => h) (fun _ h => h.elim) (fun _ _ => trivial) HB.out HB.out.size (by have := HL.out; simp; omega) ?_; intro v1 w1 ho hb hg hat; rw [List.nil_append] at ho; obtain ⟨g, cap, rfl, _, _, _⟩ := Kd.R_form ho (Nat.lt_of_le_of_lt (Nat.zero_le _) HI.out); have HO := Aside0.mk ho; have HB := Aside0.mk hb; clear ho hb hg hat)
      | ((with_reducible refine gate_store2 4 (.tmp 55) (.const (.bool true)) rfl ?_); refine store_F (w0 := w) 4 (.tmp 55) (.const (.bool true)) rfl rfl rfl (by kernel_rfl) i 36 _ x { x with isOpen := true } (.bool true) rfl (by simp) rfl rfl rfl HO.out HI.out HX1.out (by decide) (scl_open x true) HB.out ?_; intro w2 ho hb; have HO2 := Aside0.mk ho; have HB2 := Aside0.mk hb; clear ho hb)
      | ((with_reducible refine gate_store2 3 (.tmp 60) (.tmp 58) rfl ?_); refine store_F (w0 := w) 3 (.tmp 60) (.tmp 58) rfl rfl rfl (by kernel_rfl) i 38 _ { x with isOpen := true } { { x with isOpen := true } with last := now } (.int .i64 now) rfl (by simp) rfl rfl rfl HO2.out HI.out HXS.out (by decide) (scl_last _ now) HB2.out ?_; intro w2 ho hb; have HO3 := Aside0.mk ho; have HB3 := Aside0.mk hb; clear ho hb))
    go_ret2
    refine ⟨_, rfl, ?_, HB3.out⟩
    have h := HO3.out
    rw [HSS.out] at h
    exact told_R h
set_option maxHeartbeats 2000000 in
set_option maxRecDepth 100000 in
theorem ruse_any (d count idle now : Int) (l : List Ses) (A : Option Addr) (c : Nat) (w : World) (hr : kS.C w A l.length l) (hc : l.length ≤ c) (hl : l.length < 1000000) (r1 : List Ses) (r2 : Int) (h : useS l d count idle now = (r1, r2)) :
    Calls Try.prog 19 #[.slice A l.length c, .int .u64 d, .int .u64 count, .int .i64 idle, .int .i64 now] w fun e w' => ∃ v : Value, e = .returned (.tuple #[v, .int .i64 r2]) ∧ ToldS w' v r1 ∧ Below w.heap.size w w' := by
  have HR := Aside0.mk hr
  have HC := Aside0.mk hc
  have HL := Aside0.mk hl
  have HB := Aside0.mk (Below.refl w.heap.size w)
  clear hc
  cases hm : mayS l with
  | false =>
    rw [useS_no (oldS_1 (.inl hm)) (by decide)] at h
    cases h
    have HM := Aside0.mk hm
    clear hm hr hl
    cases ht : timesB idle now
    all_goals
      have HT := Aside0.mk ht
      clear ht
      go_enter Try.func19, Try.ntmps19
      go_wp2_with (first
      | (go_at_call 23; (with_reducible refine (rmayL_any l A c _ (Kd.C_below HR.out HB.out) HC.out).mono ?_); rintro e w1 ⟨he_, hb⟩; rw [HM.out] at he_; subst he_; have HB := Aside0.mk (below_step HB.out hb); clear hb)
      | (go_at_call 37; (with_reducible refine (rtimes_any idle now _).mono ?_); rintro e w1 ⟨he_, rfl⟩; rw [HT.out] at he_; subst he_))
      go_ret2
      exact ⟨_, rfl, told_C (Kd.C_below HR.out HB.out) HC.out, HB.out⟩
  | true =>
  have HM := Aside0.mk hm
  cases ht : timesB idle now with
  | false =>
    rw [useS_no (oldS_1 (.inr ht)) (by decide)] at h
    cases h
    have HT := Aside0.mk ht
    clear hm ht hr hl
    go_enter Try.func19, Try.ntmps19
    go_wp2_with (first
      | (go_at_call 23; (with_reducible refine (rmayL_any l A c _ (Kd.C_below HR.out HB.out) HC.out).mono ?_); rintro e w1 ⟨he_, hb⟩; rw [HM.out] at he_; subst he_; have HB := Aside0.mk (below_step HB.out hb); clear hb)
      | (go_at_call 37; (with_reducible refine (rtimes_any idle now _).mono ?_); rintro e w1 ⟨he_, rfl⟩; rw [HT.out] at he_; subst he_))
    go_ret2
    exact ⟨_, rfl, told_C (Kd.C_below HR.out HB.out) HC.out, HB.out⟩
  | true =>
  have HT := Aside0.mk ht
  have hge := findS_ge l d
  obtain ⟨r, hr0⟩ : ∃ r, findS l d = r := ⟨_, rfl⟩
  have HF := Aside0.mk hr0
  rw [hr0] at hge
  clear hr0
  by_cases hn : r = -1
  · subst hn
    rw [useS_no (oldS_5 hm ht HF.out) (by decide)] at h
    cases h
    clear hge hr hl hm ht
    go_enter Try.func19, Try.ntmps19
    go_wp2_with (first
      | (go_at_call 23; (with_reducible refine (rmayL_any l A c _ (Kd.C_below HR.out HB.out) HC.out).mono ?_); rintro e w1 ⟨he_, hb⟩; rw [HM.out] at he_; subst he_; have HB := Aside0.mk (below_step HB.out hb); clear hb)
      | (go_at_call 37; (with_reducible refine (rtimes_any idle now _).mono ?_); rintro e w1 ⟨he_, rfl⟩; rw [HT.out] at he_; subst he_)
      | (go_at_call 26; (with_reducible refine (rfind_any d l A c _ (Kd.C_below HR.out HB.out)).mono ?_); rintro e w1 ⟨he_, rfl⟩; rw [HF.out] at he_; subst he_))
    go_ret2
    exact ⟨_, rfl, told_C (Kd.C_below HR.out HB.out) HC.out, HB.out⟩
  obtain ⟨i, rfl⟩ : ∃ i : Nat, r = i := ⟨r.toNat, by omega⟩
  have hi : i < l.length := by omega
  obtain ⟨x, hx⟩ : ∃ x, l[i]? = some x := ⟨_, List.getElem?_eq_getElem hi⟩
  obtain ⟨ad, e0, hall⟩ := all_S hr hi hx
  subst e0
  have HX := Aside0.mk hall
  have HX1 := Aside0.mk hx
  have HI := Aside0.mk hi
  have hi2 : (i : Int) ≤ 1000000 := by omega
  have hi3 : (i : Int) < (l.length : Int) := by omega
  have hi4 : decide ((i : Int) < 0) = false := by simp
  clear hge hr hall hn
  cases hop : x.isOpen with
  | false =>
    rw [useS_no (oldS_5' hm ht HF.out hx hop) (by decide)] at h
    cases h
    have HOP := Aside0.mk hop
    clear hx hop hl hm ht
    go_enter Try.func19, Try.ntmps19
    go_wp2_with (first
      | (go_at_call 23; (with_reducible refine (rmayL_any l (some ad) c _ (Kd.C_below HR.out HB.out) HC.out).mono ?_); rintro e w1 ⟨he_, hb⟩; rw [HM.out] at he_; subst he_; have HB := Aside0.mk (below_step HB.out hb); clear hb)
      | (go_at_call 37; (with_reducible refine (rtimes_any idle now _).mono ?_); rintro e w1 ⟨he_, rfl⟩; rw [HT.out] at he_; subst he_)
      | (go_at_call 26; (with_reducible refine (rfind_any d l (some ad) c _ (Kd.C_below HR.out HB.out)).mono ?_); rintro e w1 ⟨he_, rfl⟩; rw [HF.out] at he_; subst he_; obtain ⟨ad_, e0_, _, _, _, _, _, x4, _⟩ := at_S (Kd.C_below HR.out HB.out) i HI.out x HX1.out; cases e0_; rw [HOP.out] at x4))
    go_ret2
    exact ⟨_, rfl, told_C (Kd.C_below HR.out HB.out) HC.out, HB.out⟩
  | true =>
  have HOP := Aside0.mk hop
  cases hla : lateB x idle now with
  | true =>
    rw [useS_no (oldS_9 hm ht HF.out hx hop hla) (by decide)] at h
    cases h
    have HLA := Aside0.mk hla
    clear hla hx hop hl hm ht
    go_enter Try.func19, Try.ntmps19
    go_wp2_with (first
      | (go_at_call 23; (with_reducible refine (rmayL_any l (some ad) c _ (Kd.C_below HR.out HB.out) HC.out).mono ?_); rintro e w1 ⟨he_, hb⟩; rw [HM.out] at he_; subst he_; have HB := Aside0.mk (below_step HB.out hb); clear hb)
      | (go_at_call 37; (with_reducible refine (rtimes_any idle now _).mono ?_); rintro e w1 ⟨he_, rfl⟩; rw [HT.out] at he_; subst he_)
      | (go_at_call 26; (with_reducible refine (rfind_any d l (some ad) c _ (Kd.C_below HR.out HB.out)).mono ?_); rintro e w1 ⟨he_, rfl⟩; rw [HF.out] at he_; subst he_; obtain ⟨ad_, e0_, _, _, _, _, _, x4, _⟩ := at_S (Kd.C_below HR.out HB.out) i HI.out x HX1.out; cases e0_; rw [HOP.out] at x4)
      | (with_reducible refine load_S (.tmp 45) rfl rfl (p := ad.add (i * 39)) rfl (HX.out _ HB.out) ?_)
      | (go_at_call 24; (with_reducible refine (rlate_any x idle now _).mono ?_); rintro e w1 ⟨he_, hb⟩; rw [HLA.out] at he_; subst he_; have HB := Aside0.mk (below_step HB.out hb); clear hb; clear x4; obtain ⟨ad_, e0_, _, _, _, _, _, _, x5, _⟩ := at_S (Kd.C_below HR.out HB.out) i HI.out x HX1.out; cases e0_; )
      | (go_at_call 40; (with_reducible refine (without_any i l (some ad) c _ (Kd.C_below HR.out HB.out) HC.out HI.out HL.out).mono ?_); rintro e w2 ⟨v, rfl, ho, hb⟩; have HO2 := Aside0.mk ho; have HB2 := Aside0.mk (below_step HB.out hb); clear ho hb))
    go_ret2
    exact ⟨_, rfl, told_R HO2.out, HB2.out⟩
  | false =>
  rw [useS_ok (oldS_0 hm ht HF.out hx hop hla) hx] at h
  have HLA := Aside0.mk hla
  by_cases hcnt : count ≤ x.count
  · rw [if_pos hcnt] at h
    cases h
    have hd1 : decide (count ≤ x.count) = true := decide_eq_true hcnt
    clear hla hx hop hcnt hl hm ht
    go_enter Try.func19, Try.ntmps19
    go_wp2_with (first
      | (go_at_call 23; (with_reducible refine (rmayL_any l (some ad) c _ (Kd.C_below HR.out HB.out) HC.out).mono ?_); rintro e w1 ⟨he_, hb⟩; rw [HM.out] at he_; subst he_; have HB := Aside0.mk (below_step HB.out hb); clear hb)
      | (go_at_call 37; (with_reducible refine (rtimes_any idle now _).mono ?_); rintro e w1 ⟨he_, rfl⟩; rw [HT.out] at he_; subst he_)
      | (go_at_call 26; (with_reducible refine (rfind_any d l (some ad) c _ (Kd.C_below HR.out HB.out)).mono ?_); rintro e w1 ⟨he_, rfl⟩; rw [HF.out] at he_; subst he_; obtain ⟨ad_, e0_, _, _, _, _, _, x4, _⟩ := at_S (Kd.C_below HR.out HB.out) i HI.out x HX1.out; cases e0_; rw [HOP.out] at x4)
      | (with_reducible refine load_S (.tmp 45) rfl rfl (p := ad.add (i * 39)) rfl (HX.out _ HB.out) ?_)
      | (go_at_call 24; (with_reducible refine (rlate_any x idle now _).mono ?_); rintro e w1 ⟨he_, hb⟩; rw [HLA.out] at he_; subst he_; have HB := Aside0.mk (below_step HB.out hb); clear hb; clear x4; obtain ⟨ad_, e0_, _, _, _, _, _, _, x5, _⟩ := at_S (Kd.C_below HR.out HB.out) i HI.out x HX1.out; cases e0_; ))
    go_ret2
    exact ⟨_, rfl, told_C (Kd.C_below HR.out HB.out) HC.out, HB.out⟩
  · rw [if_neg hcnt] at h
    have hd1' : x.count < count := by omega
    by_cases hmx : count = 18446744073709551615
    · rw [if_pos hmx] at h
      cases h
      have hd2 : (count == 18446744073709551615) = true := by simpa using hmx
      clear hla hx hop hcnt hmx hl hm ht
      go_enter Try.func19, Try.ntmps19
      go_wp2_with (first
      | (go_at_call 23; (with_reducible refine (rmayL_any l (some ad) c _ (Kd.C_below HR.out HB.out) HC.out).mono ?_); rintro e w1 ⟨he_, hb⟩; rw [HM.out] at he_; subst he_; have HB := Aside0.mk (below_step HB.out hb); clear hb)
      | (go_at_call 37; (with_reducible refine (rtimes_any idle now _).mono ?_); rintro e w1 ⟨he_, rfl⟩; rw [HT.out] at he_; subst he_)
      | (go_at_call 26; (with_reducible refine (rfind_any d l (some ad) c _ (Kd.C_below HR.out HB.out)).mono ?_); rintro e w1 ⟨he_, rfl⟩; rw [HF.out] at he_; subst he_; obtain ⟨ad_, e0_, _, _, _, _, _, x4, _⟩ := at_S (Kd.C_below HR.out HB.out) i HI.out x HX1.out; cases e0_; rw [HOP.out] at x4)
      | (with_reducible refine load_S (.tmp 45) rfl rfl (p := ad.add (i * 39)) rfl (HX.out _ HB.out) ?_)
      | (go_at_call 24; (with_reducible refine (rlate_any x idle now _).mono ?_); rintro e w1 ⟨he_, hb⟩; rw [HLA.out] at he_; subst he_; have HB := Aside0.mk (below_step HB.out hb); clear hb; clear x4; obtain ⟨ad_, e0_, _, _, _, _, _, _, x5, _⟩ := at_S (Kd.C_below HR.out HB.out) i HI.out x HX1.out; cases e0_; )
      | (go_at_call 40; (with_reducible refine (without_any i l (some ad) c _ (Kd.C_below HR.out HB.out) HC.out HI.out HL.out).mono ?_); rintro e w2 ⟨v, rfl, ho, hb⟩; have HO2 := Aside0.mk ho; have HB2 := Aside0.mk (below_step HB.out hb); clear ho hb))
      go_ret2
      exact ⟨_, rfl, told_R HO2.out, HB2.out⟩
    · rw [if_neg hmx] at h
      cases h
      have hd2 : (count == 18446744073709551615) = false := by simpa using hmx
      have HXS := Aside0.mk (show (l.set i { x with count := count })[i]? = some { x with count := count } by rw [List.getElem?_set_self hi])
      have HSS := Aside0.mk (show (l.set i { x with count := count }).set i { { x with count := count } with last := now } = l.set i { { x with count := count } with last := now } from List.set_set ..)
      clear hla hx hop hcnt hmx hl hm ht
      go_enter Try.func19, Try.ntmps19
      go_wp2_with (first
      | (go_at_call 23; (with_reducible refine (rmayL_any l (some ad) c _ (Kd.C_below HR.out HB.out) HC.out).mono ?_); rintro e w1 ⟨he_, hb⟩; rw [HM.out] at he_; subst he_; have HB := Aside0.mk (below_step HB.out hb); clear hb)
      | (go_at_call 37; (with_reducible refine (rtimes_any idle now _).mono ?_); rintro e w1 ⟨he_, rfl⟩; rw [HT.out] at he_; subst he_)
      | (go_at_call 26; (with_reducible refine (rfind_any d l (some ad) c _ (Kd.C_below HR.out HB.out)).mono ?_); rintro e w1 ⟨he_, rfl⟩; rw [HF.out] at he_; subst he_; obtain ⟨ad_, e0_, _, _, _, _, _, x4, _⟩ := at_S (Kd.C_below HR.out HB.out) i HI.out x HX1.out; cases e0_; rw [HOP.out] at x4)
      | (with_reducible refine load_S (.tmp 45) rfl rfl (p := ad.add (i * 39)) rfl (HX.out _ HB.out) ?_)
      | (go_at_call 24; (with_reducible refine (rlate_any x idle now _).mono ?_); rintro e w1 ⟨he_, hb⟩; rw [HLA.out] at he_; subst he_; have HB := Aside0.mk (below_step HB.out hb); clear hb; clear x4; obtain ⟨ad_, e0_, _, _, _, _, _, _, x5, _⟩ := at_S (Kd.C_below HR.out HB.out) i HI.out x HX1.out; cases e0_; )
      | ((with_reducible refine gate_builtin (b := .append) (xs := #[.const (.slice none 0 0), .tmp 67]) rfl ?_); at_builtin; refine Kd.R_append_rows kS (w0 := w) w.heap.size rfl (.const (.slice none 0 0)) (.tmp 67) 22 35 (.agg (sca zses)) 88 rfl Try.underlying22 infoZ (sca_size _) (by decide) (by omega) (.slice none 0 0) ([] : List Ses) l _ _ _ (fun _ => True) (fun _ => False) rfl rfl (Kd.R_nil _ _ _ _ _) (Kd.C_below HR.out HB.out) (fun _ _ h => h) (fun _ h => h.elim) (fun _ _ => trivial) HB.out HB.out.size (by have := HL.out; simp; omega) ?_; intro v1 w1 ho hb hg hat; rw [List.nil_append] at ho; obtain ⟨g, cap, rfl, _, _, _⟩ := Kd.R_form ho (Nat.lt_of_le_of_lt (Nat.zero_le _) HI.out); have HO := Aside0.mk ho; have HB := Aside0.mk hb; clear ho hb hg hat)
      | ((with_reducible refine gate_store2 23 (.tmp 73) (.tmp 71) rfl ?_); refine store_F (w0 := w) 23 (.tmp 73) (.tmp 71) rfl rfl rfl (by kernel_rfl) i 37 _ x { x with count := count } (.int .u64 count) rfl (by simp) rfl rfl rfl HO.out HI.out HX1.out (by decide) (scl_count x count) HB.out ?_; intro w2 ho hb; have HO2 := Aside0.mk ho; have HB2 := Aside0.mk hb; clear ho hb)
      | ((with_reducible refine gate_store2 3 (.tmp 78) (.tmp 76) rfl ?_); refine store_F (w0 := w) 3 (.tmp 78) (.tmp 76) rfl rfl rfl (by kernel_rfl) i 38 _ { x with count := count } { { x with count := count } with last := now } (.int .i64 now) rfl (by simp) rfl rfl rfl HO2.out HI.out HXS.out (by decide) (scl_last _ now) HB2.out ?_; intro w2 ho hb; have HO3 := Aside0.mk ho; have HB3 := Aside0.mk hb; clear ho hb))
      go_ret2
      refine ⟨_, rfl, ?_, HB3.out⟩
      have h := HO3.out
      rw [HSS.out] at h
      exact told_R h
end Go.Proofs.Ytmhphkclgdaajaa.P
