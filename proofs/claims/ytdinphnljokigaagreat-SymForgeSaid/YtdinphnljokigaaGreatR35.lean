/- What LawSymForge rests on, part 35: several texts put together. -/
import Derived.Test.YtdinphnljokigaaGreatR11
import Derived.Test.YtdinphnljokigaaGreatR31
import Derived.Test.YtdinphnljokigaaGreatR32
import Derived.Test.YtdinphnljokigaaGreatR33
import Derived.Test.YtdinphnljokigaaGreatR34
import Derived.Test.YtdinphnljokigaaGreatR30
import Derived.Test.YtdinphnljokigaaGreatR17
import Derived.Test.YtdinphnljokigaaGreatR2
set_option linter.unusedVariables false
set_option linter.unnecessarySimpa false
set_option linter.unusedSimpArgs false
set_option maxRecDepth 100000
section
namespace Go.Proofs.YtdinphnljokigaaGreat.P
open Go.RowKit Go.Lib Go.Proofs.YtdinphnljokigaaGreatW.PrintWords Go.Proofs.YtdinphnljokigaaGreatW.PrintLast Go.Proofs.YtdinphnljokigaaGreatW.PrintMore
theorem oldS_1 {p : Ses → Bool} {l : List Ses} {d idle now : Int} (h : mayS l = false ∨ timesB idle now = false) : oldS p l d idle now = (-1, l, 1) := by
 unfold oldS
 rw [if_pos h]
section
variable {p : Ses → Bool} {l : List Ses} {d idle now : Int} (hm : mayS l = true) (ht : timesB idle now = true)
include hm ht
theorem oldS_5 (hf : findS l d = -1) : oldS p l d idle now = (-1, l, 5) := by
 unfold oldS
 rw [if_neg (by rw [hm, ht]; simp)]
 split
 ·rfl
 ·rw [if_pos (.inl hf)]
theorem oldS_5' {i : Nat} {x : Ses} (hf : findS l d = i) (hx : l[i]? = some x) (hp : p x = false) : oldS p l d idle now = (-1, l, 5) := by
 unfold oldS
 rw [if_neg (by rw [hm, ht]; simp), hf, Int.toNat_natCast, hx]
 simp only []
 rw [if_pos (.inr hp)]
theorem oldS_9 {i : Nat} {x : Ses} (hf : findS l d = i) (hx : l[i]? = some x) (hp : p x = true) (hl : lateB x idle now = true) : oldS p l d idle now = (-1, l.eraseIdx i, 9) := by
 unfold oldS
 rw [if_neg (by rw [hm, ht]; simp), hf, Int.toNat_natCast, hx]
 simp only []
 rw [if_neg (by rw [hp]; simp), if_pos hl]
theorem oldS_0 {i : Nat} {x : Ses} (hf : findS l d = i) (hx : l[i]? = some x) (hp : p x = true) (hl : lateB x idle now = false) : oldS p l d idle now = ((i : Int), l, 0) := by
 unfold oldS
 rw [if_neg (by rw [hm, ht]; simp), hf, Int.toNat_natCast, hx]
 simp only []
 rw [if_neg (by rw [hp]; simp), if_neg (by rw [hl]; decide)]
end
theorem useS_no {l r : List Ses} {d count idle now i e : Int} (h : oldS (fun x => x.isOpen) l d idle now = (i, r, e)) (he : e ≠ 0) : useS l d count idle now = (r, e) := by
 unfold useS
 rw [h]
 simp only []
 rw [if_neg he]
theorem useS_ok {l : List Ses} {d count idle now : Int} {i : Nat} {x : Ses} (h : oldS (fun x => x.isOpen) l d idle now = ((i : Int), l, 0)) (hx : l[i]? = some x) : useS l d count idle now = if count ≤ x.count then (l, 8) else if count = 18446744073709551615 then (l.eraseIdx i, 0) else (l.set i { { x with count := count } with last := now }, 0) := by
 unfold useS
 rw [h]
 simp only [if_true, Int.toNat_natCast, hx]
open Go.RowKit
theorem useS_spec (l : List Ses) (d count idle now : Int) : ∃ r e, useS l d count idle now = (r, e) ∧
  ((e = 1 ∧ r = l ∧ (mayS l = false ∨ timesB idle now = false)) ∨
  (mayS l = true ∧ timesB idle now = true ∧ ((e = 5 ∧ r = l ∧ (findS l d = -1 ∨ ∃ (i : Nat) (x : Ses), findS l d = i ∧ l[i]? = some x ∧ x.isOpen = false)) ∨
   ∃ (i : Nat) (x : Ses), findS l d = i ∧ l[i]? = some x ∧ x.isOpen = true ∧ ((e = 9 ∧ r = l.eraseIdx i ∧ lateB x idle now = true) ∨
    (lateB x idle now = false ∧ ((e = 8 ∧ r = l ∧ count ≤ x.count) ∨ (x.count < count ∧ count = 18446744073709551615 ∧ e = 0 ∧ r = l.eraseIdx i) ∨
     (x.count < count ∧ count ≠ 18446744073709551615 ∧ e = 0 ∧ r = l.set i { { x with count := count } with last := now })))))))  := by
 cases hm : mayS l with
 | false => exact ⟨l, 1, useS_no (oldS_1 (.inl hm)) (by decide), .inl ⟨rfl, rfl, .inl rfl⟩⟩
 | true =>
 cases ht : timesB idle now with
 | false => exact ⟨l, 1, useS_no (oldS_1 (.inr ht)) (by decide), .inl ⟨rfl, rfl, .inr rfl⟩⟩
 | true =>
 have hge := findS_ge l d
 by_cases hn : findS l d = -1
 ·exact ⟨l, 5, useS_no (oldS_5 hm ht hn) (by decide), .inr ⟨rfl, rfl, .inl ⟨rfl, rfl, .inl hn⟩⟩⟩
 obtain ⟨i, hi⟩ : ∃ i : Nat, findS l d = i := ⟨(findS l d).toNat, by omega⟩
 have hlt : i < l.length := by omega
 obtain ⟨x, hx⟩ : ∃ x, l[i]? = some x := ⟨_, List.getElem?_eq_getElem hlt⟩
 cases hp : x.isOpen with
 | false => exact ⟨l, 5, useS_no (oldS_5' hm ht hi hx hp) (by decide), .inr ⟨rfl, rfl, .inl ⟨rfl, rfl, .inr ⟨i, x, hi, hx, hp⟩⟩⟩⟩
 | true =>
 cases hl : lateB x idle now with
 | true => exact ⟨l.eraseIdx i, 9, useS_no (oldS_9 hm ht hi hx hp hl) (by decide), .inr ⟨rfl, rfl, .inr ⟨i, x, hi, hx, hp, .inl ⟨rfl, rfl, hl⟩⟩⟩⟩
 | false =>
 have hu := useS_ok (count := count) (oldS_0 hm ht hi hx hp hl) hx
 by_cases hc : count ≤ x.count
 ·exact ⟨l, 8, by rw [hu, if_pos hc], .inr ⟨rfl, rfl, .inr ⟨i, x, hi, hx, hp, .inr ⟨hl, .inl ⟨rfl, rfl, hc⟩⟩⟩⟩⟩
 ·by_cases hmx : count = 18446744073709551615
  ·exact ⟨l.eraseIdx i, 0, by rw [hu, if_neg hc, if_pos hmx], .inr ⟨rfl, rfl, .inr ⟨i, x, hi, hx, hp, .inr ⟨hl, .inr (.inl ⟨by omega, hmx, rfl, rfl⟩)⟩⟩⟩⟩
  ·exact ⟨_, 0, by rw [hu, if_neg hc, if_neg hmx], .inr ⟨rfl, rfl, .inr ⟨i, x, hi, hx, hp, .inr ⟨hl, .inr (.inr ⟨by omega, hmx, rfl, rfl⟩)⟩⟩⟩⟩
theorem useS_len {l : List Ses} {d count idle now : Int} {r : List Ses} {e : Int} (h : useS l d count idle now = (r, e)) : r.length ≤ l.length := by
 obtain ⟨r', e', h', hc⟩ := useS_spec l d count idle now
 rw [h] at h'
 cases h'
 rcases hc with ⟨_, rfl, _⟩ | ⟨_, _, ⟨_, rfl, _⟩ | ⟨i, x, _, _, _, ⟨_, rfl, _⟩ | ⟨_, ⟨_, rfl, _⟩ | ⟨_, _, _, rfl⟩ | ⟨_, _, _, rfl⟩⟩⟩⟩
 ·exact Nat.le_refl _
 ·exact Nat.le_refl _
 ·exact (List.eraseIdx_sublist _ _).length_le
 ·exact Nat.le_refl _
 ·exact (List.eraseIdx_sublist _ _).length_le
 ·rw [List.length_set]; exact Nat.le_refl _
end Go.Proofs.YtdinphnljokigaaGreat.P
end

section
namespace Go.Proofs.YtdinphnljokigaaGreat.P
open Go.RowKit Go.Lib Go.Proofs.YtdinphnljokigaaGreatW.PrintWords Go.Proofs.YtdinphnljokigaaGreatW.PrintLast Go.Proofs.YtdinphnljokigaaGreatW.PrintMore
theorem proved_any (M : Mdl) (a : Ac) (vU vT vK vD vA : Value) (w0 w : World) (base g : Nat) (rb : Nat → Prop) (hm : MBox w base g rb M vU vT vK vD) (hB : Below base w0 w) (hb : base ≤ w.heap.size) (hT : M.T.length < 1000000) (hD : M.D.length < 1000000) (hW : wfF a.F) (hS : ∀ x ∈ M.T, wfS x) (hA : Told k24 w vA a.T.f2) :
  Calls Tryz.prog 65 #[.pointer (some ⟨g, 0, none⟩), .agg (aca a vA)] w fun e w' => ∃ vT' vD', e = .returned (.int .i64 (provedM M a).2) ∧ w'.heap[g]? = some (.cells (mca (provedM M a).1 vU vT' vK vD') 42 (0, 0)) ∧ MdO w' rb (provedM M a).1 vU vT' vK vD' ∧ Below base w0 w' := by
 by_cases hf0 : findS M.T a.F.sess = -1
 ·exact proved_0 M a vU vT vK vD vA w0 w base g rb hm hB hb hT hD hW hS hA hf0
 have hge := findS_ge M.T a.F.sess
 obtain ⟨i, hf⟩ : ∃ i : Nat, findS M.T a.F.sess = i := ⟨(findS M.T a.F.sess).toNat, by omega⟩
 have hi : i < M.T.length := by omega
 obtain ⟨x, hx⟩ : ∃ x, M.T[i]? = some x := ⟨_, List.getElem?_eq_getElem hi⟩
 by_cases k4 : a.F.kind = 4
 ·cases ho : x.isOpen
  ·exact proved_1 M a vU vT vK vD vA w0 w base g rb hm hB hb hT hD hW hS hA i x hf hi hx k4 ho
  cases hp : isP x a.F
  ·exact proved_2b M a vU vT vK vD vA w0 w base g rb hm hB hb hT hD hW hS hA i x hf hi hx k4 ho hp
  cases hq : sameT (proofT x a.F) a.T
  ·exact proved_3b M a vU vT vK vD vA w0 w base g rb hm hB hb hT hD hW hS hA i x hf hi hx k4 ho hp hq
  obtain ⟨T1, e1, hu⟩ : ∃ T1 e1, useS M.T x.draw a.F.count M.idle M.now = (T1, e1) := ⟨_, _, rfl⟩
  by_cases he : e1 = 0
  ·cases hr : mayR (roleU M.U x.user) a.F.cmd
   ·exact proved_6 M a vU vT vK vD vA w0 w base g rb hm hB hb hT hD hW hS hA i x hf hi hx k4 ho hp hq T1 e1 hu he hr
   by_cases hc : a.F.cmd = 7
   ·by_cases hg : a.F.arg = 0
    ·exact proved_8 M a vU vT vK vD vA w0 w base g rb hm hB hb hT hD hW hS hA i x hf hi hx k4 ho hp hq T1 e1 hu he hr hc hg (Nat.lt_of_le_of_lt (useS_len hu) hT)
    ·exact proved_7b M a vU vT vK vD vA w0 w base g rb hm hB hb hT hD hW hS hA i x hf hi hx k4 ho hp hq T1 e1 hu he hr hc hg
   ·exact proved_7a M a vU vT vK vD vA w0 w base g rb hm hB hb hT hD hW hS hA i x hf hi hx k4 ho hp hq T1 e1 hu he hr hc
  ·exact proved_5 M a vU vT vK vD vA w0 w base g rb hm hB hb hT hD hW hS hA i x hf hi hx k4 ho hp hq T1 e1 hu he
 ·cases hp : isP x a.F
  ·exact proved_2a M a vU vT vK vD vA w0 w base g rb hm hB hb hT hD hW hS hA i x hf hi hx k4 hp
  cases hq : sameT (proofT x a.F) a.T
  ·exact proved_3a M a vU vT vK vD vA w0 w base g rb hm hB hb hT hD hW hS hA i x hf hi hx k4 hp hq
  ·exact proved_4 M a vU vT vK vD vA w0 w base g rb hm hB hb hT hD hW hS hA i x hf hi hx k4 hp hq
def giveM (M : Mdl) (a : Ac) : Mdl × Int := if bareB a.F = false then (M, 3) else if a.F.kind = 0 then helloM M a else if a.F.kind = 2 ∨ a.F.kind = 4 then provedM M a else (M, 3)
set_option maxHeartbeats 4000000 in
theorem give_0 (M : Mdl) (a : Ac) (vU vT vK vD vA : Value) (w0 w : World) (base g : Nat) (rb : Nat → Prop) (hm : MBox w base g rb M vU vT vK vD) (hB : Below base w0 w) (hb : base ≤ w.heap.size) (hT : M.T.length < 1000000) (hD : M.D.length < 1000000) (hW : wfF a.F) (hS : ∀ x ∈ M.T, wfS x) (hA : Told k24 w vA a.T.f2) (hp : bareB a.F = false) :
  Calls Tryz.prog 29 #[.pointer (some ⟨g, 0, none⟩), .agg (aca a vA)] w fun e w' => ∃ vT' vD', e = .returned (.int .i64 (giveM M a).2) ∧ w'.heap[g]? = some (.cells (mca (giveM M a).1 vU vT' vK vD') 42 (0, 0)) ∧ MdO w' rb (giveM M a).1 vU vT' vK vD' ∧ Below base w0 w' := by
 have HE := aq_ (show giveM M a = (M, 3) by unfold giveM; rw [if_pos hp])
 have HP := aq_ hp
 clear hp
 have MB := aq_ hm
 have HB := aq_ hB
 have LB := aq_ hb
 have TL := aq_ hT
 have DL := aq_ hD
 have HW := aq_ hW
 have HS := aq_ hS
 have TA := aq_ hA
 clear hm hB hb hT hD hW hS hA
 go_enter Tryz.func29, Tryz.ntmps29
 go_wp2_with (first
  | ((with_reducible refine box_Ac (.tmp 1) (x := a) (v := vA) rfl rfl rfl ?_); intro ga hga w1 hbox hb; replace MB := aq_ (mbox_below MB.out hb); replace TA := aq_ (told_belowG TA.out hb); replace HB := aq_ (HB.out.trans (Below.mono hb LB.out)); replace LB := aq_ (Nat.le_trans LB.out (Below.size hb)); have AB := aq_ hbox; clear hga hbox hb)
  | (with_reducible refine load_F (.tmp 5) rfl rfl (p := ⟨ga, 1, none⟩) rfl (boxA_F AB.out) ?_)
  | ((go_at_call 35; (with_reducible refine (sbare_any a.F _ HW.out).mono ?_)); rintro e w2 ⟨he_, hb⟩; rw [HP.out] at he_; subst he_; replace MB := aq_ (mbox_below MB.out hb); replace TA := aq_ (told_belowG TA.out hb); replace AB := aq_ (blk_below AB.out hb); replace HB := aq_ (HB.out.trans (Below.mono hb LB.out)); replace LB := aq_ (Nat.le_trans LB.out (Below.size hb)); have c1 := (cellsA_F AB.out).1; clear hb))
 go_ret
 exact ⟨_, _, by rw [HE.out]; rfl, by rw [HE.out]; exact MB.out.1, by rw [HE.out]; exact mbox_mdo MB.out, HB.out⟩
set_option maxHeartbeats 4000000 in
theorem give_1 (M : Mdl) (a : Ac) (vU vT vK vD vA : Value) (w0 w : World) (base g : Nat) (rb : Nat → Prop) (hm : MBox w base g rb M vU vT vK vD) (hB : Below base w0 w) (hb : base ≤ w.heap.size) (hT : M.T.length < 1000000) (hD : M.D.length < 1000000) (hW : wfF a.F) (hS : ∀ x ∈ M.T, wfS x) (hA : Told k24 w vA a.T.f2) (hp : bareB a.F = true) (hk : a.F.kind = 0) :
  Calls Tryz.prog 29 #[.pointer (some ⟨g, 0, none⟩), .agg (aca a vA)] w fun e w' => ∃ vT' vD', e = .returned (.int .i64 (giveM M a).2) ∧ w'.heap[g]? = some (.cells (mca (giveM M a).1 vU vT' vK vD') 42 (0, 0)) ∧ MdO w' rb (giveM M a).1 vU vT' vK vD' ∧ Below base w0 w' := by
 have HE := aq_ (show giveM M a = helloM M a by unfold giveM; rw [if_neg (by rw [hp]; decide), if_pos hk])
 have HP := aq_ hp
 clear hp
 have q0 : (a.F.kind == 0) = true := by simp [hk]
 clear hk
 have MB := aq_ hm
 have HB := aq_ hB
 have LB := aq_ hb
 have TL := aq_ hT
 have DL := aq_ hD
 have HW := aq_ hW
 have HS := aq_ hS
 have TA := aq_ hA
 clear hm hB hb hT hD hW hS hA
 go_enter Tryz.func29, Tryz.ntmps29
 go_wp2_with (first
  | ((with_reducible refine box_Ac (.tmp 1) (x := a) (v := vA) rfl rfl rfl ?_); intro ga hga w1 hbox hb; replace MB := aq_ (mbox_below MB.out hb); replace TA := aq_ (told_belowG TA.out hb); replace HB := aq_ (HB.out.trans (Below.mono hb LB.out)); replace LB := aq_ (Nat.le_trans LB.out (Below.size hb)); have AB := aq_ hbox; clear hga hbox hb)
  | (with_reducible refine load_F (.tmp 5) rfl rfl (p := ⟨ga, 1, none⟩) rfl (boxA_F AB.out) ?_)
  | ((go_at_call 35; (with_reducible refine (sbare_any a.F _ HW.out).mono ?_)); rintro e w2 ⟨he_, hb⟩; rw [HP.out] at he_; subst he_; replace MB := aq_ (mbox_below MB.out hb); replace TA := aq_ (told_belowG TA.out hb); replace AB := aq_ (blk_below AB.out hb); replace HB := aq_ (HB.out.trans (Below.mono hb LB.out)); replace LB := aq_ (Nat.le_trans LB.out (Below.size hb)); have c1 := (cellsA_F AB.out).1; clear hb)
  | (with_reducible refine load_Ac (.tmp 3) rfl rfl (p := ⟨ga, 0, none⟩) rfl (boxA AB.out) ?_)
  | ((go_at_call 64; (with_reducible refine (hello_any M a vU vT vK vD vA w0 _ base g rb MB.out HB.out LB.out TL.out).mono ?_)); rintro e w3 ⟨vT', rfl, h1, h2, h3⟩; have H1 := aq_ h1; have H2 := aq_ h2; have H3 := aq_ h3; clear h1 h2 h3))
 go_ret
 exact ⟨_, _, by rw [HE.out]; rfl, by rw [HE.out]; exact H1.out, by rw [HE.out]; exact H2.out, H3.out⟩
set_option maxHeartbeats 4000000 in
theorem give_2 (M : Mdl) (a : Ac) (vU vT vK vD vA : Value) (w0 w : World) (base g : Nat) (rb : Nat → Prop) (hm : MBox w base g rb M vU vT vK vD) (hB : Below base w0 w) (hb : base ≤ w.heap.size) (hT : M.T.length < 1000000) (hD : M.D.length < 1000000) (hW : wfF a.F) (hS : ∀ x ∈ M.T, wfS x) (hA : Told k24 w vA a.T.f2) (hp : bareB a.F = true) (hk : a.F.kind = 2) :
  Calls Tryz.prog 29 #[.pointer (some ⟨g, 0, none⟩), .agg (aca a vA)] w fun e w' => ∃ vT' vD', e = .returned (.int .i64 (giveM M a).2) ∧ w'.heap[g]? = some (.cells (mca (giveM M a).1 vU vT' vK vD') 42 (0, 0)) ∧ MdO w' rb (giveM M a).1 vU vT' vK vD' ∧ Below base w0 w' := by
 have HE := aq_ (show giveM M a = provedM M a by unfold giveM; rw [if_neg (by rw [hp]; decide), if_neg (by omega), if_pos (.inl hk)])
 have HP := aq_ hp
 clear hp
 have q0 : (a.F.kind == 0) = false := by simp [hk]
 have q2 : (a.F.kind == 2) = true := by simp [hk]
 clear hk
 have MB := aq_ hm
 have HB := aq_ hB
 have LB := aq_ hb
 have TL := aq_ hT
 have DL := aq_ hD
 have HW := aq_ hW
 have HS := aq_ hS
 have TA := aq_ hA
 clear hm hB hb hT hD hW hS hA
 go_enter Tryz.func29, Tryz.ntmps29
 go_wp2_with (first
  | ((with_reducible refine box_Ac (.tmp 1) (x := a) (v := vA) rfl rfl rfl ?_); intro ga hga w1 hbox hb; replace MB := aq_ (mbox_below MB.out hb); replace TA := aq_ (told_belowG TA.out hb); replace HB := aq_ (HB.out.trans (Below.mono hb LB.out)); replace LB := aq_ (Nat.le_trans LB.out (Below.size hb)); have AB := aq_ hbox; clear hga hbox hb)
  | (with_reducible refine load_F (.tmp 5) rfl rfl (p := ⟨ga, 1, none⟩) rfl (boxA_F AB.out) ?_)
  | ((go_at_call 35; (with_reducible refine (sbare_any a.F _ HW.out).mono ?_)); rintro e w2 ⟨he_, hb⟩; rw [HP.out] at he_; subst he_; replace MB := aq_ (mbox_below MB.out hb); replace TA := aq_ (told_belowG TA.out hb); replace AB := aq_ (blk_below AB.out hb); replace HB := aq_ (HB.out.trans (Below.mono hb LB.out)); replace LB := aq_ (Nat.le_trans LB.out (Below.size hb)); have c1 := (cellsA_F AB.out).1; clear hb)
  | (with_reducible refine load_Ac (.tmp 3) rfl rfl (p := ⟨ga, 0, none⟩) rfl (boxA AB.out) ?_)
  | ((go_at_call 65; (with_reducible refine (proved_any M a vU vT vK vD vA w0 _ base g rb MB.out HB.out LB.out TL.out DL.out HW.out HS.out TA.out).mono ?_)); rintro e w3 ⟨vT', vD', rfl, h1, h2, h3⟩; have H1 := aq_ h1; have H2 := aq_ h2; have H3 := aq_ h3; clear h1 h2 h3))
 go_ret
 exact ⟨_, _, by rw [HE.out]; rfl, by rw [HE.out]; exact H1.out, by rw [HE.out]; exact H2.out, H3.out⟩
set_option maxHeartbeats 4000000 in
theorem give_3 (M : Mdl) (a : Ac) (vU vT vK vD vA : Value) (w0 w : World) (base g : Nat) (rb : Nat → Prop) (hm : MBox w base g rb M vU vT vK vD) (hB : Below base w0 w) (hb : base ≤ w.heap.size) (hT : M.T.length < 1000000) (hD : M.D.length < 1000000) (hW : wfF a.F) (hS : ∀ x ∈ M.T, wfS x) (hA : Told k24 w vA a.T.f2) (hp : bareB a.F = true) (hk : a.F.kind = 4) :
  Calls Tryz.prog 29 #[.pointer (some ⟨g, 0, none⟩), .agg (aca a vA)] w fun e w' => ∃ vT' vD', e = .returned (.int .i64 (giveM M a).2) ∧ w'.heap[g]? = some (.cells (mca (giveM M a).1 vU vT' vK vD') 42 (0, 0)) ∧ MdO w' rb (giveM M a).1 vU vT' vK vD' ∧ Below base w0 w' := by
 have HE := aq_ (show giveM M a = provedM M a by unfold giveM; rw [if_neg (by rw [hp]; decide), if_neg (by omega), if_pos (.inr hk)])
 have HP := aq_ hp
 clear hp
 have q0 : (a.F.kind == 0) = false := by simp [hk]
 have q2 : (a.F.kind == 2) = false := by simp [hk]
 have q4 : (a.F.kind == 4) = true := by simp [hk]
 clear hk
 have MB := aq_ hm
 have HB := aq_ hB
 have LB := aq_ hb
 have TL := aq_ hT
 have DL := aq_ hD
 have HW := aq_ hW
 have HS := aq_ hS
 have TA := aq_ hA
 clear hm hB hb hT hD hW hS hA
 go_enter Tryz.func29, Tryz.ntmps29
 go_wp2_with (first
  | ((with_reducible refine box_Ac (.tmp 1) (x := a) (v := vA) rfl rfl rfl ?_); intro ga hga w1 hbox hb; replace MB := aq_ (mbox_below MB.out hb); replace TA := aq_ (told_belowG TA.out hb); replace HB := aq_ (HB.out.trans (Below.mono hb LB.out)); replace LB := aq_ (Nat.le_trans LB.out (Below.size hb)); have AB := aq_ hbox; clear hga hbox hb)
  | (with_reducible refine load_F (.tmp 5) rfl rfl (p := ⟨ga, 1, none⟩) rfl (boxA_F AB.out) ?_)
  | ((go_at_call 35; (with_reducible refine (sbare_any a.F _ HW.out).mono ?_)); rintro e w2 ⟨he_, hb⟩; rw [HP.out] at he_; subst he_; replace MB := aq_ (mbox_below MB.out hb); replace TA := aq_ (told_belowG TA.out hb); replace AB := aq_ (blk_below AB.out hb); replace HB := aq_ (HB.out.trans (Below.mono hb LB.out)); replace LB := aq_ (Nat.le_trans LB.out (Below.size hb)); have c1 := (cellsA_F AB.out).1; clear hb)
  | (with_reducible refine load_Ac (.tmp 3) rfl rfl (p := ⟨ga, 0, none⟩) rfl (boxA AB.out) ?_)
  | ((go_at_call 65; (with_reducible refine (proved_any M a vU vT vK vD vA w0 _ base g rb MB.out HB.out LB.out TL.out DL.out HW.out HS.out TA.out).mono ?_)); rintro e w3 ⟨vT', vD', rfl, h1, h2, h3⟩; have H1 := aq_ h1; have H2 := aq_ h2; have H3 := aq_ h3; clear h1 h2 h3))
 go_ret
 exact ⟨_, _, by rw [HE.out]; rfl, by rw [HE.out]; exact H1.out, by rw [HE.out]; exact H2.out, H3.out⟩
set_option maxHeartbeats 4000000 in
theorem give_4 (M : Mdl) (a : Ac) (vU vT vK vD vA : Value) (w0 w : World) (base g : Nat) (rb : Nat → Prop) (hm : MBox w base g rb M vU vT vK vD) (hB : Below base w0 w) (hb : base ≤ w.heap.size) (hT : M.T.length < 1000000) (hD : M.D.length < 1000000) (hW : wfF a.F) (hS : ∀ x ∈ M.T, wfS x) (hA : Told k24 w vA a.T.f2) (hp : bareB a.F = true) (hk0 : ¬ a.F.kind = 0) (hk2 : ¬ a.F.kind = 2) (hk4 : ¬ a.F.kind = 4) :
  Calls Tryz.prog 29 #[.pointer (some ⟨g, 0, none⟩), .agg (aca a vA)] w fun e w' => ∃ vT' vD', e = .returned (.int .i64 (giveM M a).2) ∧ w'.heap[g]? = some (.cells (mca (giveM M a).1 vU vT' vK vD') 42 (0, 0)) ∧ MdO w' rb (giveM M a).1 vU vT' vK vD' ∧ Below base w0 w' := by
 have HE := aq_ (show giveM M a = (M, 3) by unfold giveM; rw [if_neg (by rw [hp]; decide), if_neg hk0, if_neg (fun h => h.elim hk2 hk4)])
 have HP := aq_ hp
 clear hp
 have q0 : (a.F.kind == 0) = false := by simpa using hk0
 have q2 : (a.F.kind == 2) = false := by simpa using hk2
 have q4 : (a.F.kind == 4) = false := by simpa using hk4
 clear hk0 hk2 hk4
 have MB := aq_ hm
 have HB := aq_ hB
 have LB := aq_ hb
 have TL := aq_ hT
 have DL := aq_ hD
 have HW := aq_ hW
 have HS := aq_ hS
 have TA := aq_ hA
 clear hm hB hb hT hD hW hS hA
 go_enter Tryz.func29, Tryz.ntmps29
 go_wp2_with (first
  | ((with_reducible refine box_Ac (.tmp 1) (x := a) (v := vA) rfl rfl rfl ?_); intro ga hga w1 hbox hb; replace MB := aq_ (mbox_below MB.out hb); replace TA := aq_ (told_belowG TA.out hb); replace HB := aq_ (HB.out.trans (Below.mono hb LB.out)); replace LB := aq_ (Nat.le_trans LB.out (Below.size hb)); have AB := aq_ hbox; clear hga hbox hb)
  | (with_reducible refine load_F (.tmp 5) rfl rfl (p := ⟨ga, 1, none⟩) rfl (boxA_F AB.out) ?_)
  | ((go_at_call 35; (with_reducible refine (sbare_any a.F _ HW.out).mono ?_)); rintro e w2 ⟨he_, hb⟩; rw [HP.out] at he_; subst he_; replace MB := aq_ (mbox_below MB.out hb); replace TA := aq_ (told_belowG TA.out hb); replace AB := aq_ (blk_below AB.out hb); replace HB := aq_ (HB.out.trans (Below.mono hb LB.out)); replace LB := aq_ (Nat.le_trans LB.out (Below.size hb)); have c1 := (cellsA_F AB.out).1; clear hb))
 go_ret
 exact ⟨_, _, by rw [HE.out]; rfl, by rw [HE.out]; exact MB.out.1, by rw [HE.out]; exact mbox_mdo MB.out, HB.out⟩
theorem give_any (M : Mdl) (a : Ac) (vU vT vK vD vA : Value) (w0 w : World) (base g : Nat) (rb : Nat → Prop) (hm : MBox w base g rb M vU vT vK vD) (hB : Below base w0 w) (hb : base ≤ w.heap.size) (hT : M.T.length < 1000000) (hD : M.D.length < 1000000) (hW : wfF a.F) (hS : ∀ x ∈ M.T, wfS x) (hA : Told k24 w vA a.T.f2) :
  Calls Tryz.prog 29 #[.pointer (some ⟨g, 0, none⟩), .agg (aca a vA)] w fun e w' => ∃ vT' vD', e = .returned (.int .i64 (giveM M a).2) ∧ w'.heap[g]? = some (.cells (mca (giveM M a).1 vU vT' vK vD') 42 (0, 0)) ∧ MdO w' rb (giveM M a).1 vU vT' vK vD' ∧ Below base w0 w' := by
 cases hp : bareB a.F
 ·exact give_0 M a vU vT vK vD vA w0 w base g rb hm hB hb hT hD hW hS hA hp
 by_cases h0 : a.F.kind = 0
 ·exact give_1 M a vU vT vK vD vA w0 w base g rb hm hB hb hT hD hW hS hA hp h0
 by_cases h2 : a.F.kind = 2
 ·exact give_2 M a vU vT vK vD vA w0 w base g rb hm hB hb hT hD hW hS hA hp h2
 by_cases h4 : a.F.kind = 4
 ·exact give_3 M a vU vT vK vD vA w0 w base g rb hm hB hb hT hD hW hS hA hp h4
 ·exact give_4 M a vU vT vK vD vA w0 w base g rb hm hB hb hT hD hW hS hA hp h0 h2 h4
def zmdl : Mdl := ⟨[], 0, [], 0, 0, [], []⟩
def zmca : Array Value := mca zmdl (.slice none 0 0) (.slice none 0 0) (.slice none 0 0) (.slice none 0 0)
theorem infoM : (Tryz.prog.info? 42).map (·.size) = some 7 := by kernel_rfl
theorem run_boxM (w : World) (M : Mdl) (vU vT vK vD : Value) : (Instr.box 42 (.agg (mca M vU vT vK vD))).run Tryz.prog w = .ok (.pointer (some ⟨w.heap.size, 0, none⟩)) (w.alloc (.cells (mca M vU vT vK vD) 42)) := by kernel_rfl
theorem run_allocM (w : World) : (Instr.alloc 42 true (.tuple #[])).run Tryz.prog w = .ok (.pointer (some ⟨w.heap.size, 0, none⟩)) (w.alloc (.cells zmca 42)) := by kernel_rfl
section
variable {ops : Array Oper} {rest : List Oper} {o : Oper} {a : Act} {w : World} {Q : Exit → Act → World → Prop}
theorem box_Mo (x : Operand) {M : Mdl} {vU vT vK vD : Value} (ho : o.op = .box 42 x) (hgd : o.guard = none) (hx : a.eval x = .agg (mca M vU vT vK vD)) (h : ∀ g, g = w.heap.size → ∀ w1 : World, w1.heap[g]? = some (.cells (mca M vU vT vK vD) 42 (0, 0)) → Below w.heap.size w w1 → wpList Tryz.prog ops Q rest (a.put o.dst (.pointer (some ⟨g, 0, none⟩))) w1) : wpList Tryz.prog ops Q (o :: rest) a w := by
 refine Kd.event_run hgd (v := .pointer (some ⟨w.heap.size, 0, none⟩)) ?_ (h _ rfl (w.alloc (.cells (mca M vU vT vK vD) 42)) (blk_new w _) (below_alloc (Below.refl _ _) _))
 unfold execOp
 simp only [ho, hx, Sem.run_bind, run_boxM, Result.andThen_ok, Sem.run_pure]
theorem alloc_Mo (ho : o.op = .alloc 42) (hgd : o.guard = none) (h : ∀ g, g = w.heap.size → ∀ w1 : World, w1.heap[g]? = some (.cells zmca 42 (0, 0)) → Below w.heap.size w w1 → wpList Tryz.prog ops Q rest (a.put o.dst (.pointer (some ⟨g, 0, none⟩))) w1) : wpList Tryz.prog ops Q (o :: rest) a w := by
 refine Kd.event_run hgd (v := .pointer (some ⟨w.heap.size, 0, none⟩)) ?_ (h _ rfl (w.alloc (.cells zmca 42)) (blk_new w _) (below_alloc (Below.refl _ _) _))
 unfold execOp
 simp only [ho, Sem.run_bind, run_allocM, Result.andThen_ok, Sem.run_pure]
theorem run_loadM {g : Nat} {cs : Array Value} (hs : cs.size = 7) (hg : w.heap[g]? = some (.cells cs 42 (0, 0))) : (loadVar 42 ⟨g, 0, none⟩).run Tryz.prog w = .ok (.agg cs) w :=
 run_loadVar_row w g 42 42 cs (0, 0) _ hg Tryz.underlying42 rfl (by rw [infoM, hs])
theorem exec_loadM (y : Operand) (ho : o.op = .load 42 y) {g : Nat} {M : Mdl} {vU vT vK vD : Value} (hy : a.eval y = .pointer (some ⟨g, 0, none⟩)) (hg : w.heap[g]? = some (.cells (mca M vU vT vK vD) 42 (0, 0))) :
  (execOp a.eval o).run Tryz.prog w = .ok (.value (.agg (mca M vU vT vK vD))) w := by
 unfold execOp
 simp only [ho, hy, Instr.loadAt, Instr.sureAddr, Sem.run_bind, Sem.run_pure, Result.andThen_ok, run_loadM rfl hg]
theorem load_Mo (y : Operand) (ho : o.op = .load 42 y) (hgd : o.guard = none) {g : Nat} {M : Mdl} {vU vT vK vD : Value} (hy : a.eval y = .pointer (some ⟨g, 0, none⟩)) (hg : w.heap[g]? = some (.cells (mca M vU vT vK vD) 42 (0, 0)))
  (h : wpList Tryz.prog ops Q rest (a.put o.dst (.agg (mca M vU vT vK vD))) w) : wpList Tryz.prog ops Q (o :: rest) a w := Kd.event_run hgd (exec_loadM y ho hy hg) h
theorem load_Mw (y : Operand) (ho : o.op = .load 42 y) (hw : Region.wanted o (yielded ops a.tmps) = true) {g : Nat} {M : Mdl} {vU vT vK vD : Value} (hy : a.eval y = .pointer (some ⟨g, 0, none⟩)) (hg : w.heap[g]? = some (.cells (mca M vU vT vK vD) 42 (0, 0)))
  (h : wpList Tryz.prog ops Q rest (a.put o.dst (.agg (mca M vU vT vK vD))) w) : wpList Tryz.prog ops Q (o :: rest) a w :=
 gate_guard hw (load_Mo (o := { o with guard := none }) y ho rfl hy hg h)
theorem store_Mo (x y : Operand) (ho : o.op = .store 42 x y) (hgd : o.guard = none) (hN : o.dst = none) {g : Nat} {M : Mdl} {vU vT vK vD : Value} {A1 A2 A3 A4 : Option Addr} {c1 c2 c3 c4 n1 n2 n3 n4 : Nat} {old : Array Value} (hold : old.size = 7) (hx : a.eval x = .pointer (some ⟨g, 0, none⟩)) (hy : a.eval y = .agg (mca M vU vT vK vD))
  (e1 : vU = .slice A1 n1 c1) (e2 : vT = .slice A2 n2 c2) (e3 : vK = .slice A3 n3 c3) (e4 : vD = .slice A4 n4 c4) (hg : w.heap[g]? = some (.cells old 42 (0, 0)))
  (h : ∀ w1 : World, w1.heap[g]? = some (.cells (mca M vU vT vK vD) 42 (0, 0)) → w1.heap.size = w.heap.size → (∀ B w0, B ≤ g → Below B w0 w → Below B w0 w1) → (∀ k, k ≠ g → w1.heap[k]? = w.heap[k]?) → wpList Tryz.prog ops Q rest a w1) : wpList Tryz.prog ops Q (o :: rest) a w := by
 subst e1 e2 e3 e4
 refine wpList_store_row hgd 42 x y ho g (mca M _ _ _ _) hx hy 42 old hg (by rw [infoM]; rfl) (by rw [hold]; rfl) ?_ ?_
 ·simp [mca, Value.oneCell']
 ·rw [hN]
  refine h _ (setRow_heap _ _ _ _ _ _ hg) (size_setRow _ _ _) (fun B w0 hB hb => ?_) (fun k hk => setRow_other _ _ _ _ hk)
  refine ⟨hb.os, hb.tape, hb.output, (by simpa only [size_setRow] using hb.size), fun k hk => ?_⟩
  rw [setRow_other _ _ _ _ (by omega)]
  exact hb.block k hk
end
theorem ret_Mt {tmps : Array Value} {w : World} {fn : Func} {p q : Tmp} (h : fn.results = #[.cell p 42, .tmp q]) {g : Nat} {M : Mdl} {vU vT vK vD u : Value} (hp : tmps.getD p undef = .pointer (some ⟨g, 0, none⟩)) (hq : tmps.getD q undef = u) (hg : w.heap[g]? = some (.cells (mca M vU vT vK vD) 42 (0, 0))) :
  (results fn tmps).run Tryz.prog w = .ok (.tuple #[.agg (mca M vU vT vK vD), u]) w := by
 rw [← hq]
 exact ret_ct h hp hg Tryz.underlying42 rfl (by rw [infoM]; rfl)
theorem mdO_slices {w : World} {r : Nat → Prop} {M : Mdl} {vU vT vK vD : Value} (h : MdO w r M vU vT vK vD) : (∃ A c, vU = .slice A M.U.length c) ∧ (∃ A c, vT = .slice A M.T.length c) ∧ (∃ A c, vK = .slice A M.K.length c) ∧ (∃ A c, vD = .slice A M.D.length c) := by
 obtain ⟨⟨A, c, e, _⟩, ⟨A1, c1, e1, _⟩, ⟨A2, c2, e2, _⟩, ⟨A3, c3, e3, _⟩⟩ := mdO_told h
 exact ⟨⟨A, c, e⟩, ⟨A1, c1, e1⟩, ⟨A2, c2, e2⟩, ⟨A3, c3, e3⟩⟩
theorem mdO_add {w w' : World} {rq : Nat → Prop} {gr : Nat} {M : Mdl} {vU vT vK vD : Value} (h : MdO w rq M vU vT vK vD) (hb : Below w.heap.size w w') (hg : w.heap.size ≤ gr) : MdO w' (fun k => rq k ∨ k = gr) M vU vT vK vD := by
 obtain ⟨h1, h2, h3, h4⟩ := h
 refine ⟨Kd.V_mono (Kd.V_below (Kd.V_bound h1) hb) ?_, Kd.V_mono (Kd.V_below (Kd.V_bound h2) hb) ?_, Kd.V_mono (Kd.V_below (Kd.V_bound h3) hb) ?_, Kd.V_mono (Kd.V_below (Kd.V_bound h4) hb) ?_⟩ <;> exact fun k hk e => e.elim hk.1 (fun e => by have := hk.2; omega)
theorem mdO_sub {w w' : World} {rq : Nat → Prop} {gr : Nat} {M : Mdl} {vU vT vK vD : Value} (h : MdO w (fun k => rq k ∨ k = gr) M vU vT vK vD) (hf : ∀ k, k ≠ gr → w'.heap[k]? = w.heap[k]?) : MdO w' rq M vU vT vK vD := by
 obtain ⟨h1, h2, h3, h4⟩ := h
 refine ⟨Kd.V_mono (Kd.V_step h1 fun k hk _ => hf k fun e => hk (.inr e)) ?_, Kd.V_mono (Kd.V_step h2 fun k hk _ => hf k fun e => hk (.inr e)) ?_, Kd.V_mono (Kd.V_step h3 fun k hk _ => hf k fun e => hk (.inr e)) ?_, Kd.V_mono (Kd.V_step h4 fun k hk _ => hf k fun e => hk (.inr e)) ?_⟩ <;> exact fun k hk e => hk (.inl e)
theorem mdC_slices {w : World} {M : Mdl} {vU vT vK vD : Value} (h : MdC w M vU vT vK vD) : (∃ A c, vU = .slice A M.U.length c) ∧ (∃ A c, vT = .slice A M.T.length c) ∧ (∃ A c, vK = .slice A M.K.length c) ∧ (∃ A c, vD = .slice A M.D.length c) := by
 obtain ⟨⟨A, c, e, _⟩, ⟨A1, c1, e1, _⟩, ⟨A2, c2, e2, _⟩, ⟨A3, c3, e3, _⟩⟩ := h
 exact ⟨⟨A, c, e⟩, ⟨A1, c1, e1⟩, ⟨A2, c2, e2⟩, ⟨A3, c3, e3⟩⟩
def stepM (M : Mdl) (a : Ac) : Mdl × Int :=
 if mayM M = false then (M, 1) else if a.kind = 0 then emitM M a else if a.kind = 1 then giveM M a
 else if a.kind = 2 then ({ M with now := if 1073741824 < M.now + 1 then 1073741824 else M.now + 1 }, 0)
 else if a.kind = 3 then (if M.epoch = 1073741824 then (M, 12) else ({ M with epoch := M.epoch + 1, now := 0, T := [] }, 0)) else (M, 1)
set_option maxHeartbeats 4000000 in
theorem key16_any (n : Int) (w : World) : Calls Tryz.prog 20 #[.int .u8 n] w fun e w' => ∃ v, e = .returned v ∧ Kd.R (Kd.int .u8) 5 w' w.heap.size (fun _ => True) v (List.replicate 16 n) ∧ Below w.heap.size w w' := by
 go_enter Tryz.func20, Tryz.ntmps20
 go_wp2
 go_loopw [3, 4] (fun v3 v4 wr => ∃ i : Nat, i ≤ 16 ∧ v4 = .int .i64 i ∧ Aside0 (Kd.R (Kd.int .u8) 5 wr w.heap.size (fun _ => True) v3 (List.replicate i n)) ∧ Aside0 (Below w.heap.size w wr)) (fun v3 v4 _ => 16 - (intOf v4).toNat)
 case atStart => exact ⟨0, by omega, rfl, ⟨Kd.R_nil _ _ _ _ _⟩, ⟨Below.refl _ _⟩⟩
 case round =>
  obtain ⟨i, hi, rfl, HR, HB⟩ := hrel
  by_cases hlt : i < 16
  ·have hd : decide ((i : Int) < 16) = true := by simp; omega
   go_wp2_with ((with_reducible refine gate_builtin (b := .append) (xs := #[.tmp 9, .tmp 11]) rfl ?_); at_builtin; go_loud (refine Kd.R_append (Kd.int .u8) (w0 := w) w.heap.size rfl (.tmp 9) (.tmp 11) 64 5 (.int .u8 0) 1 rfl Tryz.underlying64 info5 rfl (by decide) (by decide) u3 (List.replicate i n) n [.int .u8 n] (fun _ => True) (fun _ => False) rfl rfl rfl (fun _ h => h.elim) (fun _ _ => trivial) HR.out HB.out HB.out.size ?_ ?_); (· simp; omega); intro v1 w3 ho hb hg hat; have HR1 := aq_ ho; have HB1 := aq_ hb; clear ho hb hg hat)
   go_roundw
   case rel => exact ⟨i + 1, by omega, by simp, ⟨by rw [List.replicate_succ']; exact HR1.out⟩, HB1⟩
   case measure => simp [intOf]; omega
  ·obtain rfl : i = 16 := by omega
   have hd : decide (((16 : Nat) : Int) < 16) = false := by simp
   go_wp2
   go_ret
   exact ⟨_, rfl, HR.out, HB.out⟩
def startM (U : List Usr) (idle : Int) : Mdl := ⟨U, idle, [], 1, 0, [], []⟩
set_option maxHeartbeats 4000000 in
theorem start_nil (U : List Usr) (AU : Option Addr) (cU : Nat) (idle : Int) (w : World) : Calls Tryz.prog 10 #[.slice AU U.length cU, .slice none 0 0, .int .i64 idle] w fun e w' => e = .returned (.agg (mca (startM U idle) (.slice AU U.length cU) (.slice none 0 0) (.slice none 0 0) (.slice none 0 0))) ∧ Below w.heap.size w w' := by
 go_enter Tryz.func10, Tryz.ntmps10
 go_upto_region 1 with ((with_reducible refine alloc_Mo rfl rfl ?_); intro gr hgr w1 hbox hb; have G1 := aq_ (show w.heap.size ≤ gr by omega); have XR := aq_ hbox; have HB1 := aq_ hb; clear hgr hbox hb)
 go_upto_region 2 with (first
  | ((with_reducible refine alloc_Mo rfl rfl ?_); intro gm hgm w2 hbox hb; have G2 := aq_ (show w.heap.size ≤ gm by have := HB1.out.size; omega); have NE := aq_ (show gr ≠ gm by have := blk_lt XR.out; omega); have X2 := aq_ hbox; have XR2 := aq_ (blk_below XR.out hb); have HB2 := aq_ (HB1.out.trans (hb.mono HB1.out.size)); clear hgm hbox hb HB1 XR)
  | ((with_reducible refine gate_store2 42 (.tmp 7) (.tmp 11) rfl ?_); (refine store_Mo (.tmp 7) (.tmp 11) (M := startM U idle) (vU := .slice AU U.length cU) (vT := .slice none 0 0) (vK := .slice none 0 0) (vD := .slice none 0 0) rfl rfl rfl (by rfl) rfl rfl rfl rfl rfl rfl X2.out ?_); intro w3 hx1 hs1 hb1 hf1; have X3 := aq_ hx1; have HB3 := aq_ (hb1 _ _ G2.out HB2.out); have XR3 := aq_ ((hf1 _ NE.out).trans XR2.out); clear hx1 hs1 hb1 hf1 X2 HB2 XR2))
 go_wp2
 go_loopw [8] (fun v8 wr => v8 = .int .i64 0 ∧ Aside0 (wr.heap[gm]? = some (.cells (mca (startM U idle) (.slice AU U.length cU) (.slice none 0 0) (.slice none 0 0) (.slice none 0 0)) 42 (0, 0))) ∧ Aside0 (wr.heap[gr]? = some (.cells zmca 42 (0, 0))) ∧ Aside0 (Below w.heap.size w wr)) (fun v8 _ => 0)
 case atStart => exact ⟨rfl, X3, XR3, HB3⟩
 case round =>
  clear X3 XR3 HB3
  obtain ⟨rfl, X3, XR3, HB3⟩ := hrel
  go_wp2_with (first
   | (with_reducible refine load_Mo (.tmp 7) rfl rfl rfl X3.out ?_)
   | ((with_reducible refine store_Mo (.tmp 6) (.tmp 28) rfl rfl rfl rfl rfl rfl rfl rfl rfl rfl XR3.out ?_); intro wF hx1 hs1 hb1 hf1; have XF := aq_ hx1; have HF := aq_ (hb1 _ _ G1.out HB3.out); clear hx1 hs1 hb1 hf1))
  refine bodyPost_ret (ret_7 rfl (g := gr) rfl XF.out) rfl ?_
  exact ⟨rfl, HF.out⟩
set_option maxHeartbeats 8000000 in
theorem step_2 (M : Mdl) (a : Ac) (vU vT vK vD vA : Value) (w : World) (rq : Nat → Prop) (hq : ∀ k, rq k → k < w.heap.size) (hm : MdO w rq M vU vT vK vD) (hs : smallM M) (hX : wfS a.X) (hW : wfF a.F) (hS : ∀ x ∈ M.T, wfS x) (hA : Told k24 w vA a.T.f2) (hy : mayM M = true) (hk : a.kind = 1) :
  Calls Tryz.prog 12 #[.agg (mca M vU vT vK vD), .agg (aca a vA)] w fun e w' => ∃ vU' vT' vK' vD', e = .returned (.tuple #[.agg (mca (stepM M a).1 vU' vT' vK' vD'), .int .i64 (stepM M a).2]) ∧ MdO w' rq (stepM M a).1 vU' vT' vK' vD' ∧ Below w.heap.size w w' := by
 have HE := aq_ (show stepM M a = giveM M a by unfold stepM; rw [if_neg (by rw [hy]; decide), if_neg (by omega), if_pos hk])
 have HY := aq_ hy
 clear hy
 have q0 : (a.kind == 0) = false := by simp [hk]
 have q1 : (a.kind == 1) = true := by simp [hk]
 clear hk
 have HM := aq_ hm
 have HQ := aq_ hq
 have HSM := aq_ hs
 have SK := aq_ (show M.K.length < 1000000 from hs.1.2.2.1)
 have STL := aq_ (show M.T.length < 1000000 from hs.1.2.1)
 have SD := aq_ (show M.D.length < 1000000 from hs.1.2.2.2)
 have HX := aq_ hX
 have HW := aq_ hW
 have HS := aq_ hS
 have TA := aq_ hA
 clear hm hq hs hX hW hS hA
 go_enter Tryz.func12, Tryz.ntmps12
 go_upto_region 1 with (first
  | ((with_reducible refine box_Mo (.tmp 0) (M := M) (vU := vU) (vT := vT) (vK := vK) (vD := vD) rfl rfl rfl ?_); intro gm hgm w1 hbox hb; have B3 := aq_ hb; have L3 := aq_ hb.size; have XM := aq_ hbox; replace TA := aq_ (told_belowG TA.out hb); clear hgm hbox hb)
  | ((with_reducible refine box_Ac (.tmp 1) (x := a) (v := vA) rfl rfl rfl ?_); intro ga hga w2 hbox hb; have AB := aq_ hbox; replace XM := aq_ (blk_below XM.out hb); replace TA := aq_ (told_belowG TA.out hb); replace B3 := aq_ (B3.out.trans (hb.mono L3.out)); replace L3 := aq_ (Nat.le_trans L3.out hb.size); clear hga hbox hb)
  | ((with_reducible refine alloc_Mo rfl rfl ?_); intro gr hgr w3 hbox hb; have GR := aq_ (show w.heap.size ≤ gr by have := L3.out; omega); have XR := aq_ hbox; replace XM := aq_ (blk_below XM.out hb); replace AB := aq_ (blk_below AB.out hb); replace TA := aq_ (told_belowG TA.out hb); replace B3 := aq_ (B3.out.trans (hb.mono L3.out)); replace L3 := aq_ (Nat.le_trans L3.out hb.size); clear hgr hbox hb))
 have HO := aq_ (mdO_add HM.out B3.out GR.out)
 have GRL := aq_ (show ∀ k, rq k ∨ k = gr → k < w3.heap.size from fun k hk => hk.elim (fun h => Nat.lt_of_lt_of_le (HQ.out k h) L3.out) (fun h => by rw [h]; exact blk_lt XR.out))
 go_wp2_with (first
  | (with_reducible refine load_Mo (.tmp 2) rfl rfl rfl XM.out ?_)
  | ((go_at_call 25; (with_reducible refine (sown_any M vU vT vK vD _ (fun k => rq k ∨ k = gr) GRL.out HO.out HSM.out).mono ?_)); rintro e w4 ⟨vU', vT', vK', vD', rfl, hO, hb⟩; obtain ⟨⟨B1, d1, rfl⟩, ⟨B2, d2, rfl⟩, ⟨B3_, d3, rfl⟩, ⟨B4, d4, rfl⟩⟩ := mdC_slices (ownM_told hO); have OW := aq_ hO; have C4 := aq_ hb; clear hO hb)
  | ((with_reducible refine alloc_Mo rfl rfl ?_); intro gO hgO w5 hbox hb; have XZ := aq_ hbox; have D4 := aq_ hb; have GO4 := aq_ (show w4.heap.size ≤ gO by omega); clear hgO hbox hb)
  | ((with_reducible refine store_Mo (.tmp 6) (.tmp 10) rfl rfl rfl rfl rfl rfl rfl rfl rfl rfl XZ.out ?_); intro w6 hx1 hs1 hb1 hf1; have D6 := aq_ (hb1 _ _ GO4.out D4.out); have MB := aq_ (mbox_of OW.out D6.out GO4.out C4.out.size hx1); have HB := aq_ (C4.out.trans (D6.out.mono C4.out.size)); have LB := aq_ (show w3.heap.size ≤ w6.heap.size from Nat.le_trans C4.out.size D6.out.size); clear OW C4 XZ D4 D6 GO4 hx1 hs1 hb1 hf1)
  | (with_reducible refine load_Mo (.tmp 2) rfl rfl rfl (blk_below XM.out HB.out) ?_)
  | ((go_at_call 22; (with_reducible refine (mayM_any M vU vT vK vD _ (mdO_told (mdO_below HO.out HB.out))).mono ?_)); rintro e w7 ⟨he_, hb⟩; rw [HY.out] at he_; subst he_; replace MB := aq_ (mbox_below MB.out hb); replace HB := aq_ (HB.out.trans (hb.mono LB.out)); replace LB := aq_ (Nat.le_trans LB.out hb.size); have XO := aq_ MB.out.1; have MO := aq_ (mbox_mdo MB.out); have c0 := cellsA_kind (blk_below AB.out HB.out); have c2 : w7.cell? ⟨gO, 2, none⟩ = some (.slice B2 M.T.length d2) := blk_cell MB.out.1 2; have c3 : w7.cell? ⟨gO, 3, none⟩ = some (.int .i64 M.epoch) := blk_cell MB.out.1 3; have c4 : w7.cell? ⟨gO, 4, none⟩ = some (.int .i64 M.now) := blk_cell MB.out.1 4; have z2 := blk_frozen MB.out.1 2; have z3 := blk_frozen MB.out.1 3; have z4 := blk_frozen MB.out.1 4; clear hb)
  | (with_reducible refine load_Ac (.tmp 3) rfl rfl (p := ⟨ga, 0, none⟩) rfl (boxA (blk_below AB.out HB.out)) ?_)
  | ((go_at_call 29; (with_reducible refine (give_any M a _ _ _ _ vA w3 _ w3.heap.size gO _ MB.out HB.out LB.out STL.out SD.out HW.out HS.out (told_belowG TA.out HB.out)).mono ?_)); rintro e w8 ⟨vT2, vD2, rfl, h1, h2, h3⟩; obtain ⟨_, ⟨A8, c8, rfl⟩, _, ⟨A9, c9, rfl⟩⟩ := mdO_slices h2; clear MB HB LB XO MO c0 c2 c3 c4 z2 z3 z4; have XO := aq_ h1; have MO := aq_ h2; have HB := aq_ h3; clear h1 h2 h3)
  | (with_reducible refine load_Mo (.tmp 6) rfl rfl rfl XO.out ?_)
  | ((with_reducible refine store_Mo (.tmp 4) (.tmp 28) rfl rfl rfl rfl rfl rfl rfl rfl rfl rfl (blk_below XR.out HB.out) ?_); intro wF hx1 hs1 hb1 hf1; have XF := aq_ hx1; have BF := aq_ (hb1 _ _ GR.out (B3.out.trans (HB.out.mono L3.out))); have MF := aq_ (mdO_sub MO.out hf1); clear hx1 hs1 hb1 hf1))
 all_goals (refine bodyPost_ret (ret_Mt rfl (g := gr) rfl rfl XF.out) rfl ?_; exact ⟨_, _, _, _, by rw [HE.out]; rfl, by rw [HE.out]; exact MF.out, BF.out⟩)
end Go.Proofs.YtdinphnljokigaaGreat.P
end
