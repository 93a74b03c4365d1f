/- What store answers, pelicanref09 answers. -/
import Derived.Test.YtlldfihhdbbicaaHRefCut
import Derived.Test.YtlldfihhdbbicaaHWrite
import Derived.Test.YtlldfihhdbbicaaPx2
namespace Go.Proofs.Ytlldfihhdbbicaa.P
open Go.RowKit Go.Lib Go.Proofs.YtlldfihhdbbicaaW.PrintWords Go.Proofs.YtlldfihhdbbicaaW.PrintLast Go.Proofs.YtlldfihhdbbicaaW.PrintMore
set_option linter.unusedVariables false
set_option linter.unusedSimpArgs false
theorem may_same (a n : Int) (l : List Int) : pelicanref09_May.f a l n = store_May.f a l n := rfl
theorem may_some (a n : Int) (l : List Int) : ∃ b, store_May.f a l n = some b := by
  unfold store_May.f
  repeat' split
  all_goals exact ⟨_, rfl⟩
theorem may_true {a n : Int} {l : List Int} (h : store_May.f a l n = some true) : 0 ≤ a ∧ a ≤ 16384 ∧ (l.length : Int) ≤ a ∧ 0 ≤ n ∧ n ≤ (l.length : Int) := by
  unfold store_May.f at h
  split at h
  · split at h
    · split at h
      · split at h
        · have := of_decide_eq_true (Option.some.inj h)
          omega
        · simp at h
      · simp at h
    · simp at h
  · simp at h
section
variable (a n : Int) (A : Option Addr) (c : Nat) (l : List Int) (w : World) (hr : Kd.C (Kd.int .u8) w A l.length l) (hc : l.length ≤ c) (r1 : Int) (r2 : List Int) (r3 r4 : Int)
include hr hc
theorem refsync_same (h : store_Sync.f a l n = some (r1, r2, r3, r4)) : Calls Try.prog 19 #[.agg #[.int .i64 a, .slice A l.length c, .int .i64 n]] w fun e w' => Told w w' e r1 r2 r3 r4 := by
  unfold store_Sync.f at h
  obtain ⟨m, hm, h⟩ := Option.bind_eq_some_iff.mp h
  obtain ⟨k, hk, h⟩ := Option.bind_eq_some_iff.mp h
  have hs := clone_same hk
  subst hs
  have h := Option.some.inj h
  cases m with
  | true =>
    rw [if_pos rfl] at h
    simp only [Prod.mk.injEq] at h
    obtain ⟨rfl, rfl, rfl, rfl⟩ := h
    exact refsync_yes a n A c k w hr hc hm
  | false =>
    rw [if_neg (by decide)] at h
    simp only [Prod.mk.injEq] at h
    obtain ⟨rfl, rfl, rfl, rfl⟩ := h
    exact refsync_no a n A c k w hr hc hm
theorem refcut_same (x : Int) (h : store_Cut.f a l n x = some (r1, r2, r3, r4)) : Calls Try.prog 20 #[.agg #[.int .i64 a, .slice A l.length c, .int .i64 n], .int .i64 x] w fun e w' => Told w w' e r1 r2 r3 r4 := by
  unfold store_Cut.f at h
  obtain ⟨m, hm, h⟩ := Option.bind_eq_some_iff.mp h
  obtain ⟨k, hk, h⟩ := Option.bind_eq_some_iff.mp h
  have hs := clone_same hk
  subst hs
  have h := Option.some.inj h
  by_cases hx : m = true ∧ 0 ≤ x ∧ x ≤ (k.length : Int)
  · rw [if_pos hx] at h
    simp only [Prod.mk.injEq] at h
    obtain ⟨rfl, rfl, rfl, rfl⟩ := h
    obtain ⟨rfl, h0, h1⟩ := hx
    exact refcut_yes a n A c k w hr hc x hm h0 h1
  · rw [if_neg hx] at h
    simp only [Prod.mk.injEq] at h
    obtain ⟨rfl, rfl, rfl, rfl⟩ := h
    refine refcut_no a n A c k w hr hc x m hm ?_
    cases m with
    | false => exact Or.inl rfl
    | true =>
      refine Or.inr ?_
      by_cases h0 : x < 0
      · exact Or.inl h0
      · refine Or.inr ?_
        by_cases h1 : x ≤ (k.length : Int)
        · exact absurd ⟨rfl, by omega, h1⟩ hx
        · omega
theorem refwrite_same (B : Option Addr) (d : Nat) (k : List Int) (hk : Kd.C (Kd.int .u8) w B k.length k) (hd : k.length ≤ d) (h : store_Write.f a l n k = some (r1, r2, r3, r4)) : Calls Try.prog 18 #[.agg #[.int .i64 a, .slice A l.length c, .int .i64 n], .slice B k.length d] w fun e w' => Told w w' e r1 r2 r3 r4 := by
  unfold store_Write.f at h
  split at h
  case isFalse => simp at h
  obtain ⟨m, hm, h⟩ := Option.bind_eq_some_iff.mp h
  obtain ⟨q, hq, h⟩ := Option.bind_eq_some_iff.mp h
  have h := Option.some.inj h
  unfold store_Left.f at hq
  rw [hm, Option.bind_some] at hq
  cases m with
  | false =>
    rw [if_neg (by decide)] at h
    simp only [Prod.mk.injEq] at h
    obtain ⟨rfl, rfl, rfl, rfl⟩ := h
    exact refwrite_no a n A c l w hr hc B d k hk hd hm
  | true =>
    rw [if_pos rfl] at h hq
    obtain ⟨h1, h2, h3, _, _⟩ := may_true hm
    have hq := Option.some.inj hq
    rw [cw64_ (by omega) (by omega)] at hq
    by_cases hx : (k.length : Int) ≤ q
    · rw [if_pos hx] at h
      simp only [Prod.mk.injEq] at h
      obtain ⟨rfl, rfl, rfl, rfl⟩ := h
      exact refwrite_yes a n A c l w hr hc B d k hk hd hm h1 h2 h3 (by omega)
    · rw [if_neg hx] at h
      simp only [Prod.mk.injEq] at h
      obtain ⟨rfl, rfl, rfl, rfl⟩ := h
      exact refwrite_full a n A c l w hr hc B d k hk hd hm h1 h2 h3 (by omega)
theorem refcrash_same (x : Int) (h : store_Crash.f a l n x = some (r1, r2, r3)) : Calls Try.prog 24 #[.agg #[.int .i64 a, .slice A l.length c, .int .i64 n], .int .i64 x] w fun e w' => Told1 w w' e r1 r2 r3 := by
  unfold store_Crash.f at h
  obtain ⟨m, hm, h⟩ := Option.bind_eq_some_iff.mp h
  cases m with
  | false =>
    rw [if_neg (by decide)] at h
    obtain ⟨⟨y1, y2, y3⟩, hy, hg⟩ := Option.bind_eq_some_iff.mp h
    clear h
    unfold store_own.f at hy
    obtain ⟨k, hk, hz⟩ := Option.bind_eq_some_iff.mp hy
    clear hy
    have hs := clone_same hk
    subst hs
    have hy := Option.some.inj hz
    have h := Option.some.inj hg
    simp only [Prod.mk.injEq] at h hy
    obtain ⟨rfl, rfl, rfl⟩ := hy
    obtain ⟨rfl, rfl, rfl⟩ := h
    exact refcrash_no a n A c k w hr hc x hm
  | true =>
    rw [if_pos rfl] at h
    obtain ⟨⟨y1, y2, y3, y4⟩, hy, h⟩ := Option.bind_eq_some_iff.mp h
    obtain ⟨h1, h2, h3, h4, h5⟩ := may_true hm
    have h := Option.some.inj h
    simp only [Prod.mk.injEq] at h
    obtain ⟨rfl, rfl, rfl⟩ := h
    unfold store_Cut.f at hy
    rw [hm, Option.bind_some] at hy
    obtain ⟨k, hk, hz⟩ := Option.bind_eq_some_iff.mp hy
    clear hy
    have hs := clone_same hk
    subst hs
    have hy := Option.some.inj hz
    clear hz
    rw [cw64_ (x := (k.length : Int) - n) (by omega) (by omega)] at hy
    have hv : ∀ v, 0 ≤ v → v ≤ (k.length : Int) → n + mx 0 (mn x ((k.length : Int) - n)) = v → y1 = a ∧ y2 = k.take v.toNat ∧ y3 = v := by
      intro v v0 v1 e
      rw [e, cw64_ (by omega) (by omega), if_pos ⟨rfl, v0, v1⟩] at hy
      simp only [Prod.mk.injEq] at hy
      exact ⟨hy.1.symm, hy.2.1.symm, hy.2.2.1.symm⟩
    by_cases hx : x < 0
    · obtain ⟨rfl, rfl, rfl⟩ := hv n h4 h5 (by unfold mx mn; split <;> split <;> omega)
      exact refcrash_lo y1 y3 A c k w hr hc x hm h4 h5 (by omega) hx
    · by_cases hx2 : (k.length : Int) - n < x
      · obtain ⟨rfl, rfl, rfl⟩ := hv (k.length : Int) (by omega) (by omega) (by unfold mx mn; split <;> split <;> omega)
        exact refcrash_hi y1 n A c k w hr hc x hm h4 h5 (by omega) (by omega) hx2
      · obtain ⟨rfl, rfl, rfl⟩ := hv (n + x) (by omega) (by omega) (by unfold mx mn; split <;> split <;> omega)
        exact refcrash_in y1 n A c k w hr hc x hm h4 h5 (by omega) (by omega) (by omega)
end
end Go.Proofs.Ytlldfihhdbbicaa.P
