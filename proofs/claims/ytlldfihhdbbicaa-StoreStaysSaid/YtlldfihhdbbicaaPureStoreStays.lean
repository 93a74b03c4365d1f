/- StoreStays, in plain data. -/
import Derived.Test.YtlldfihhdbbicaaHPureWrite
import Derived.Test.YtlldfihhdbbicaaHStmtStoreStays
namespace Go.Proofs.Ytlldfihhdbbicaa.Pure
open Go.RowKit Go.Proofs.Ytlldfihhdbbicaa.P Go.Proofs.YtlldfihhdbbicaaW.PrintWords Go.Proofs.YtlldfihhdbbicaaW.PrintLast
set_option linter.unusedVariables false
set_option linter.unusedSimpArgs false
theorem stays_j1 (k : Nat) (s0 : Int) (l : List Int) (s2 : Int) (w : List Int) (w2 : Int) (t : List Int) (t2 : Int) (c : List Int) (c2 : Int) (q : List Int) (q2 : Int)
    (hw : mayP s0 w w2 ↔ mayP s0 l s2) (ht : mayP s0 t t2 ↔ mayP s0 l s2) (hc : mayP s0 c c2 ↔ mayP s0 l s2) (hq : mayP s0 q q2 ↔ mayP s0 l s2) :
    pelicanlaw09_StoreStays.j1 (k + 1) false s0 l s2 s0 w w2 s0 t t2 s0 c c2 s0 q q2 = some true := by
  simp only [pelicanlaw09_StoreStays.j1, may_f, Option.bind_some, decide_eq_decide.2 hw, decide_eq_decide.2 ht, decide_eq_decide.2 hc, decide_eq_decide.2 hq]
  simp
theorem StoreStays : pelicanlaw09_StoreStays.PureS := by
  intro s b n hs hb _
  refine ⟨2, ?_⟩
  have hearly : pelicanlaw09_StoreStays.j0 2 b n true true s.f0 s.f1 s.f2 = some true := by simp [pelicanlaw09_StoreStays.j0]
  unfold pelicanlaw09_StoreStays.f pelicanlaw09_Few.f
  rw [awake_f, Option.bind_some, Option.bind_some, if_pos rfl]
  by_cases hf : (s.f1.length : Int) ≤ 5000
  · rw [decide_eq_true hf, if_pos rfl]
    by_cases h5 : (b.length : Int) > 5000
    · rw [decide_eq_true h5, hearly]
    · rw [decide_eq_false h5]
      have hw := write_f s.f0 s.f1 s.f2 b (by omega) (by omega)
      have hy := sync_f s.f0 s.f1 s.f2 (by omega)
      have hc := cut_f s.f0 s.f1 s.f2 n (by omega)
      generalize s.f0 = s0 at *
      generalize s.f1 = l at *
      generalize s.f2 = s2 at *
      simp only [pelicanlaw09_StoreStays.j0]
      rw [if_neg (by decide)]
      by_cases hm : mayP s0 l s2
      · have hk := crash_f s0 l s2 n hm
        have hq := (take_may (x := n) hm).1
        have hsync : mayP s0 l (l.length : Int) := ⟨hm.1, hm.2.1, hm.2.2.1, by omega, by omega⟩
        rw [if_pos hm] at hw hy
        rw [hy, hk]
        by_cases hr : (b.length : Int) ≤ s0 - (l.length : Int)
        · rw [if_pos hr] at hw
          rw [hw]
          by_cases hcc : mayP s0 l s2 ∧ 0 ≤ n ∧ n ≤ (l.length : Int)
          · rw [if_pos hcc] at hc
            have hcm : mayP s0 (l.take n.toNat) n := ⟨hm.1, hm.2.1, by rw [List.length_take]; have := hm.2.2.1; omega, hcc.2.1, by rw [List.length_take]; omega⟩
            rw [hc]
            simp only [Option.bind_some, if_true]
            exact stays_j1 0 s0 l s2 _ _ _ _ _ _ _ _ ⟨fun _ => hm, fun _ => write_may hm hr⟩ ⟨fun _ => hm, fun _ => hsync⟩ ⟨fun _ => hm, fun _ => hcm⟩ ⟨fun _ => hm, fun _ => hq⟩
          · rw [if_neg hcc] at hc
            rw [hc]
            simp only [Option.bind_some, if_true, same_refl, show ¬ ((1 : Int) = 0) by decide, if_false, Bool.not_true]
            exact stays_j1 0 s0 l s2 _ _ _ _ _ _ _ _ ⟨fun _ => hm, fun _ => write_may hm hr⟩ ⟨fun _ => hm, fun _ => hsync⟩ Iff.rfl ⟨fun _ => hm, fun _ => hq⟩
        · rw [if_neg hr] at hw
          rw [hw]
          by_cases hcc : mayP s0 l s2 ∧ 0 ≤ n ∧ n ≤ (l.length : Int)
          · rw [if_pos hcc] at hc
            have hcm : mayP s0 (l.take n.toNat) n := ⟨hm.1, hm.2.1, by rw [List.length_take]; have := hm.2.2.1; omega, hcc.2.1, by rw [List.length_take]; omega⟩
            rw [hc]
            simp only [Option.bind_some, if_true, same_refl, show ¬ ((12 : Int) = 0) by decide, if_false]
            exact stays_j1 0 s0 l s2 _ _ _ _ _ _ _ _ Iff.rfl ⟨fun _ => hm, fun _ => hsync⟩ ⟨fun _ => hm, fun _ => hcm⟩ ⟨fun _ => hm, fun _ => hq⟩
          · rw [if_neg hcc] at hc
            rw [hc]
            simp only [Option.bind_some, if_true, same_refl, show ¬ ((1 : Int) = 0) by decide, show ¬ ((12 : Int) = 0) by decide, if_false, Bool.not_true]
            exact stays_j1 0 s0 l s2 _ _ _ _ _ _ _ _ Iff.rfl ⟨fun _ => hm, fun _ => hsync⟩ Iff.rfl ⟨fun _ => hm, fun _ => hq⟩
      · have hk := crash_no s0 l s2 n hm (by omega)
        rw [if_neg hm] at hw hy
        rw [if_neg (fun h => hm h.1)] at hc
        rw [hw, hy, hc, hk]
        simp only [Option.bind_some, if_true, same_refl, show ¬ ((1 : Int) = 0) by decide, if_false, Bool.not_true]
        exact stays_j1 0 s0 l s2 _ _ _ _ _ _ _ _ Iff.rfl Iff.rfl Iff.rfl Iff.rfl
  · rw [decide_eq_false hf, if_neg (by decide), hearly]
end Go.Proofs.Ytlldfihhdbbicaa.Pure
