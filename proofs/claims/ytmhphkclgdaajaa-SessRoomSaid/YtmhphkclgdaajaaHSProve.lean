/- sess.Prove, sess.Use. -/
import Derived.Test.YtmhphkclgdaajaaHSStore
namespace Go.Proofs.Ytmhphkclgdaajaa.P
open Go.RowKit Go.Lib Go.Proofs.YtmhphkclgdaajaaW.PrintWords Go.Proofs.YtmhphkclgdaajaaW.PrintLast Go.Proofs.YtmhphkclgdaajaaW.PrintMore
set_option linter.unusedVariables false
set_option linter.unusedSimpArgs false
theorem oldS_ok {p : Ses → Bool} {l : List Ses} {d idle now r1 : Int} {r2 : List Ses} {r3 : Int} (h : oldS p l d idle now = (r1, r2, r3)) (h3 : r3 = 0) :
    ∃ (i : Nat) (x : Ses), r1 = i ∧ r2 = l ∧ findS l d = i ∧ l[i]? = some x ∧ p x = true ∧ lateB x idle now = false ∧ mayS l = true ∧ timesB idle now = true := by
  subst h3
  unfold oldS at h
  split at h
  · simp at h
  · rename_i hmt
    split at h
    · simp at h
    · rename_i x hx
      split at h
      · simp at h
      · rename_i hn
        split at h
        · simp at h
        · rename_i hla
          simp only [Prod.mk.injEq] at h
          obtain ⟨h1, h2, _⟩ := h
          have hge := findS_ge l d
          have hfi : findS l d = ((findS l d).toNat : Int) := by
            have : ¬ findS l d = -1 := fun e => hn (.inl e)
            omega
          refine ⟨(findS l d).toNat, x, by omega, h2.symm, hfi, hx, ?_, by simpa using hla, ?_, ?_⟩
          · cases hp : p x with
            | true => rfl
            | false => exact absurd (.inr hp) hn
          · cases hm : mayS l with
            | true => rfl
            | false => exact absurd (.inl hm) hmt
          · cases ht : timesB idle now with
            | true => rfl
            | false => exact absurd (.inr ht) hmt
/-- What Prove answers. -/
def proveS (l : List Ses) (d idle now : Int) : List Ses × Int :=
  let o := oldS (fun _ => true) l d idle now
  if o.2.2 = 0 then
    match l[o.1.toNat]? with
    | none => (l, 0)
    | some x => if x.isOpen = true then (l, 6) else (l.set o.1.toNat { { x with isOpen := true } with last := now }, 0)
  else o.2
/-- What Use answers. -/
def useS (l : List Ses) (d count idle now : Int) : List Ses × Int :=
  let o := oldS (fun x => x.isOpen) l d idle now
  if o.2.2 = 0 then
    match l[o.1.toNat]? with
    | none => (l, 0)
    | some x => if count ≤ x.count then (l, 8) else if count = 18446744073709551615 then (l.eraseIdx o.1.toNat, 0) else (l.set o.1.toNat { { x with count := count } with last := now }, 0)
  else o.2
set_option maxHeartbeats 2000000 in
set_option maxRecDepth 100000 in
theorem prove_any (d idle now : Int) (l : List Ses) (A : Option Addr) (c : Nat) (w : World) (hr : kS.C w A l.length l) (hc : l.length ≤ c) (hl : l.length < 1000000) (r1 : List Ses) (r2 : Int) (h : proveS l d idle now = (r1, r2)) :
    Calls Try.prog 17 #[.slice A l.length c, .int .u64 d, .int .i64 idle, .int .i64 now] w fun e w' => ∃ v : Value, e = .returned (.tuple #[v, .int .i64 r2]) ∧ ToldS w' v r1 ∧ Below w.heap.size w w' := by
  have HR := Aside0.mk hr
  have HC := Aside0.mk hc
  have HL := Aside0.mk hl
  obtain ⟨⟨o1, o2, o3⟩, ho⟩ : ∃ o, oldS (fun _ => true) l d idle now = o := ⟨_, rfl⟩
  have HD := Aside0.mk ho
  unfold proveS at h
  rw [ho] at h
  simp only [] at h
  clear hr hc
  by_cases h3 : o3 = 0
  · rw [if_pos h3] at h
    obtain ⟨i, x, rfl, rfl, hf, hx, hz1, hz2, hz3, hz4⟩ := oldS_ok ho h3
    clear hz1 hz2 hz3 hz4
    subst h3
    have hi : i < o2.length := (List.getElem?_eq_some_iff.1 hx).1
    rw [Int.toNat_natCast, hx] at h
    simp only [] at h
    have HX := Aside0.mk hx
    have HI := Aside0.mk hi
    have HXS := Aside0.mk (show (o2.set i { x with isOpen := true })[i]? = some { x with isOpen := true } by rw [List.getElem?_set_self hi])
    have HLS := Aside0.mk (show (o2.set i { x with isOpen := true }).length = o2.length from List.length_set)
    have HSS := Aside0.mk (show (o2.set i { x with isOpen := true }).set i { { x with isOpen := true } with last := now } = o2.set i { { x with isOpen := true } with last := now } from List.set_set ..)
    have hi2 : (i : Int) ≤ 1000000 := by omega
    have hi3 : (i : Int) < (o2.length : Int) := by omega
    cases hop : x.isOpen with
    | true =>
      rw [hop, if_pos rfl] at h
      cases h
      have HOP := Aside0.mk hop
      clear hop hf hx ho hl
      go_enter Try.func17, Try.ntmps17
      go_wp2_with (go_at_call 27; (with_reducible refine (old_prove d idle now _ A c _ HR.out HC.out HL.out (i : Int) _ 0 HD.out).mono ?_); rintro e w1 ⟨v, rfl, ho, hb⟩; obtain ⟨g, cap, rfl, _, _, _⟩ := Kd.R_form ho (Nat.lt_of_le_of_lt (Nat.zero_le _) HI.out); obtain ⟨q0, q1, q2, q3, q4⟩ := own_at ho HI.out HX.out; rw [HOP.out] at q0; have HO := Aside0.mk ho; have HB := Aside0.mk hb; clear ho hb)
      go_ret2
      exact ⟨_, rfl, told_R HO.out, HB.out⟩
    | false =>
      rw [hop, if_neg (by decide)] at h
      cases h
      have HOP := Aside0.mk hop
      clear hop hf hx ho hl
      go_enter Try.func17, Try.ntmps17
      go_wp2_with (first
        | (go_at_call 27; (with_reducible refine (old_prove d idle now _ A c _ HR.out HC.out HL.out (i : Int) _ 0 HD.out).mono ?_); rintro e w1 ⟨v, rfl, ho, hb⟩; obtain ⟨g, cap, rfl, _, _, _⟩ := Kd.R_form ho (Nat.lt_of_le_of_lt (Nat.zero_le _) HI.out); obtain ⟨q0, q1, q2, q3, q4⟩ := own_at ho HI.out HX.out; rw [HOP.out] at q0; have HO := Aside0.mk ho; have HB := Aside0.mk hb; clear ho hb)
        | ((with_reducible refine gate_store2 4 (.tmp 40) (.const (.bool true)) rfl ?_); refine store_F (w0 := w) 4 (.tmp 40) (.const (.bool true)) rfl rfl rfl (by kernel_rfl) i 36 _ x { x with isOpen := true } (.bool true) rfl (by simp) rfl rfl rfl HO.out HI.out HX.out (by decide) (scl_open x true) HB.out ?_; clear q0 q1 q2 q3 q4; intro w2 ho hb; have HO2 := Aside0.mk ho; have HB2 := Aside0.mk hb; clear ho hb)
        | ((with_reducible refine gate_store2 3 (.tmp 42) (.tmp 38) rfl ?_); refine store_F (w0 := w) 3 (.tmp 42) (.tmp 38) rfl rfl rfl (by kernel_rfl) i 38 _ { x with isOpen := true } { { x with isOpen := true } with last := now } (.int .i64 now) rfl (by simp) rfl rfl rfl HO2.out HI.out HXS.out (by decide) (scl_last _ now) HB2.out ?_; intro w3 ho hb; have HO3 := Aside0.mk ho; have HB3 := Aside0.mk hb; clear ho hb))
      go_ret2
      refine ⟨_, rfl, ?_, HB3.out⟩
      have h := HO3.out
      rw [HSS.out] at h
      exact told_R h
  · rw [if_neg h3] at h
    cases h
    have h3b : (r2 == 0) = false := by simpa using h3
    have h3c : (r2 != 0) = true := by simpa using h3
    clear h3 hl ho
    go_enter Try.func17, Try.ntmps17
    go_wp2_with (go_at_call 27; (with_reducible refine (old_prove d idle now l A c _ HR.out HC.out HL.out o1 r1 r2 HD.out).mono ?_); rintro e w1 ⟨v, rfl, ho, hb⟩; have HO := Aside0.mk ho; have HB := Aside0.mk hb; clear ho hb)
    go_ret2
    exact ⟨_, rfl, told_R HO.out, HB.out⟩
end Go.Proofs.Ytmhphkclgdaajaa.P
