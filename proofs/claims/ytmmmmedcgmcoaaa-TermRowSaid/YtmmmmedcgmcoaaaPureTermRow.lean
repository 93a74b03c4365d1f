/- TermRow, in plain data. -/
import Derived.Test.YtmmmmedcgmcoaaaHTermP
import Derived.Test.YtmmmmedcgmcoaaaHStmtTermRow
namespace Go.Proofs.Ytmmmmedcgmcoaaa.Pure
open Go.RowKit Go.Proofs.Ytmmmmedcgmcoaaa.P Go.Proofs.YtmmmmedcgmcoaaaW.PrintWords Go.Proofs.YtmmmmedcgmcoaaaW.PrintLast
set_option linter.unusedVariables false
set_option linter.unusedSimpArgs false
theorem awake_ev : Ev (fun _ => pelicanlaw05_awake.f) true := Ev.const rfl
theorem out_ev (x7 : Bool) (l m : List Int) (a b : Int) (c : List S24) (h : x7 = true) : Ev (fun k => pelicanlaw05_TermRow.j0 k l m x7 true a b c) true :=
  Ev.step (f := fun _ => some x7) (fun k => by rw [pelicanlaw05_TermRow.j0, if_pos rfl]) (Ev.const (by rw [h]))
theorem row_ok : ∀ l : List Int, l ≠ [] → (∀ x ∈ l, 0 ≤ x) → okT (rowT l) = true ∧ tdep (rowT l) ≤ l.length
  | [], h, _ => absurd rfl h
  | [x], _, hx => by
    have h0 := hx x (by simp)
    rw [rowT, word, okT, tdep, okL, ldep]
    constructor
    · simp [nodeB, h0]
    · simp
  | x :: y :: l, _, hx => by
    have h0 := hx x (by simp)
    obtain ⟨h1, h2⟩ := row_ok (y :: l) (by simp) (fun z hz => hx z (List.mem_cons_of_mem _ hz))
    rw [rowT, okT, tdep, okL, okL, okL, ldep, ldep, ldep, h1, word, okT, tdep, okL, ldep]
    constructor
    · simp [nodeB, h0]
    · simp only [List.length_cons] at h2 ⊢; omega
theorem row_may {l : List Int} (h : okRow l = true) : mayT (rowT l) = true := by
  obtain ⟨h1, h2, h3⟩ := (okRow_iff l).1 h
  obtain ⟨h4, h5⟩ := row_ok l h1 h3
  have h6 := rowT_size l
  unfold mayT
  rw [h4, decide_eq_true (by omega), decide_eq_true (by omega)]
  rfl
theorem row_inj {l k : List Int} (hl : okRow l = true) (hk : okRow k = true) (h : rowT l = rowT k) : l = k := by
  rw [← outL_row l ((okRow_iff l).1 hl).1, h, outL_row k ((okRow_iff k).1 hk).1]
theorem j1_ev (x : S24) (hx6 : tsize x ≤ 1000000) : Ev (fun k => pelicanlaw05_TermRow.j1 k false x.f0 x.f1 x.f2) true := by
  refine Ev.step (fun k => by rw [pelicanlaw05_TermRow.j1]) (Ev.no (by simp) ?_)
  rw [unrow_f x hx6]
  simp only [Option.bind_some]
  unfold term_Row.f
  simp only [Option.bind_some]
  refine Ev.ite (fun h => ?_) (fun h => Ev.const rfl)
  obtain ⟨l, h1, rfl⟩ := (uB_iff x).1 h
  rw [uL_row h1]
  refine Ev.yes h1 ?_
  rw [rowR_yes h1, same_f, sameT_self]
  exact Ev.const rfl
theorem TermRow : pelicanlaw05_TermRow.PureS := by
  intro l m x hl hm hx
  refine Ev.rounds ?_
  unfold pelicanlaw05_TermRow.f
  refine Ev.bind awake_ev (Ev.bind (light_ev x) (Ev.yes rfl (Ev.ite (fun h1 => Ev.ite (fun h2 => out_ev _ _ _ _ _ _ rfl) (fun h2 => ?_)) (fun h1 => out_ev _ _ _ _ _ _ rfl))))
  have h1 := of_decide_eq_true h1
  cases hd : decide ((m.length : Int) > 20) with
  | true => exact out_ev _ _ _ _ _ _ rfl
  | false =>
    have h3 := of_decide_eq_false hd
    have hx6 : tsize x ≤ 1000000 := by omega
    have hr : tsize (rowR l) ≤ 1000000 := by have := rowR_size l; omega
    refine Ev.step (fun k => by rw [pelicanlaw05_TermRow.j0]) (Ev.no (by simp) ?_)
    unfold term_Row.f
    simp only [Option.bind_some]
    rw [unrow_f (rowR l) hr, may_f (rowR l) hr, same_f]
    simp only [Option.bind_some]
    refine Ev.bind (ints_ev (uL (rowR l)) l (by have := uL_len (rowR l); omega)) (Ev.bind (ints_ev l m (by omega)) (Ev.ite (fun h => ?_) (fun h => j1_ev x hx6)))
    rw [rowR_yes h]
    refine Ev.yes ((uB_iff _).2 ⟨l, h, rfl⟩) (Ev.yes (by rw [uL_row h]; simp) (Ev.yes (row_may h) (Ev.ite (fun hk => ?_) (fun hk => j1_ev x hx6))))
    rw [rowR_yes hk]
    have e : (sameT (rowT l) (rowT m) != decide (l = m)) = false := by
      rw [bne_eq_false_iff_eq, Bool.eq_iff_iff, sameT_iff, decide_eq_true_eq]
      exact ⟨row_inj h hk, fun h => by rw [h]⟩
    rw [e]
    exact j1_ev x hx6
end Go.Proofs.Ytmmmmedcgmcoaaa.Pure
