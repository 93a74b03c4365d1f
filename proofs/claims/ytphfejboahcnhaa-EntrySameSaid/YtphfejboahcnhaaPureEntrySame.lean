/- EntrySame, in plain data. -/
import Derived.Test.YtphfejboahcnhaaHEntL
import Derived.Test.YtphfejboahcnhaaHStmtEntrySame
namespace Go.Proofs.Ytphfejboahcnhaa.Pure
open Go.RowKit Go.Proofs.Ytphfejboahcnhaa.P Go.Proofs.YtphfejboahcnhaaW.PrintWords Go.Proofs.YtphfejboahcnhaaW.PrintLast
set_option linter.unusedVariables false
set_option linter.unusedSimpArgs false
theorem sameL_self (l : List SE) : sameL l l = true := (sameL_iff l l).2 rfl
theorem EntrySame : pelicanlaw10_EntrySame.PureS := by
  intro l e i hl he hi
  refine Ev.rounds ?_
  unfold pelicanlaw10_EntrySame.f
  refine Ev.bind awake_ev (Ev.yes rfl (Ev.ite (fun h300 => ?_) (fun h300 => ?_)))
  · refine Ev.step (f := fun _ => some true) (fun k => ?_) (Ev.const rfl)
    rw [pelicanlaw10_EntrySame.j0, if_pos rfl, if_pos rfl, decide_eq_true h300]
  · refine Ev.bind (same_ev l l (by omega)) ?_
    rw [sameL_self]
    refine Ev.step (fun k => by rw [pelicanlaw10_EntrySame.j0]) ?_
    refine Ev.no (by decide) (Ev.yes (by simp; omega) ?_)
    simp only [Option.bind_some]
    refine Ev.yes (by simp; omega) ?_
    refine Ev.bind (same_ev _ _ (by omega)) ?_
    rw [sameL_len (a := l) (by simp)]
    refine Ev.no (by decide) (Ev.ite (fun _ => Ev.const rfl) fun h0 => Ev.ite (fun _ => Ev.const rfl) fun h1 => ?_)
    simp only [List.nil_append]
    refine Ev.yes (by omega) (Ev.yes (by omega) ?_)
    refine Ev.bind (same_ev _ _ (by omega)) (Ev.yes (by omega) (Ev.const ?_))
    obtain ⟨n, rfl⟩ := Int.eq_ofNat_of_zero_le (show 0 ≤ i by omega)
    have hn : n < l.length := by omega
    rw [Int.toNat_natCast]
    have key : sameL l (l.set n e) = eqE (rd_T25 l (n : Int)) e := by
      rw [Bool.eq_iff_iff, sameL_iff, eqE_iff, rdE l hn]
      constructor
      · intro h
        have := congrArg (fun z => z[n]?) h
        simp [hn] at this
        exact this
      · intro h
        rw [← h]
        simp
    have he' : (⟨e.f0, e.f1, e.f2, e.f3, e.f4, e.f5, e.f6, e.f7, e.f8⟩ : SE) = e := rfl
    rw [he', key]
    simp [eqE]
end Go.Proofs.Ytphfejboahcnhaa.Pure
