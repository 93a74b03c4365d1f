/- KnowTells, in plain data. -/
import Derived.Test.YtfonjmggalkbjaaHRefLacks
import Derived.Test.YtfonjmggalkbjaaHStmtKnowTells
namespace Go.Proofs.Ytfonjmggalkbjaa.Pure
open Go.RowKit Go.Proofs.Ytfonjmggalkbjaa.P Go.Proofs.YtfonjmggalkbjaaW.PrintWords Go.Proofs.YtfonjmggalkbjaaW.PrintLast
set_option linter.unusedVariables false
set_option linter.unusedSimpArgs false
theorem awake_ev : Ev (fun _ => pelicanlaw06_awake.f) true := Ev.const rfl
theorem lists_loop (l l' : List S24) (hl : l.length ≤ 1000000) (hs6 : ∀ x ∈ l, tsize x ≤ 1000000) (he : l.length = l'.length) :
    ∀ (s : List S24) (s' : List S24) (i : Nat), l.drop i = s → l'.drop i = s' → Ev (fun k => pelicanref05_Lists.l0 k l l' (i : Int)) (sameLs s s') := by
  intro s
  induction s with
  | nil =>
    intro s' i hs hs'
    have hl := drop_nil hs
    obtain rfl : s' = [] := by rw [← hs', List.drop_of_length_le (by omega)]
    refine Ev.step (f := fun _ => some true) (fun k => ?_) (Ev.const (by rw [sameLs]))
    rw [pelicanref05_Lists.l0, if_neg (by omega)]
  | cons y s ihs =>
    intro s' i hs hs'
    obtain ⟨hi, hr, hd, hm⟩ := drop_cons hs
    cases s' with
    | nil => have := drop_nil hs'; omega
    | cons z s' =>
      obtain ⟨hi', hr', hd', hm'⟩ := drop_cons hs'
      rw [sameLs]
      refine Ev.step (f := fun k => (pelicanref05_Same.f k y.f0 y.f1 y.f2 z.f0 z.f1 z.f2).bind fun t => if t = true then pelicanref05_Lists.l0 k l l' ((i + 1 : Nat) : Int) else some false) (fun k => ?_) ?_
      · rw [pelicanref05_Lists.l0, if_pos (by omega), if_pos (by omega), if_pos (by omega), hr, hr', cw64 (x := (i : Int) + 1) (by omega) (by omega)]
        rfl
      · refine Ev.bind (ref_same_ev y (hs6 y hm) z) (Ev.ite (fun h => ?_) (fun h => ?_))
        · rw [h, Bool.true_and]; exact ihs s' (i + 1) hd hd'
        · refine Ev.const ?_
          rw [Bool.eq_false_iff.2 h, Bool.false_and]
theorem lists_ev (l l' : List S24) (hl : l.length ≤ 1000000) (hs6 : ∀ x ∈ l, tsize x ≤ 1000000) : Ev (fun k => pelicanref05_Lists.f k l l') (sameLs l l') := by
  unfold pelicanref05_Lists.f
  refine Ev.ite (fun h => lists_loop l l' hl hs6 (by omega) l l' 0 rfl rfl) (fun h => Ev.const ?_)
  rw [sameLs_len (by omega)]
theorem sameLs_self (l : List S24) : sameLs l l = true := (sameLs_iff l (fun x _ y => sameT_iff x y) l).2 rfl
theorem missL_two (parts : List S24) (p q : S24) : missL parts [p, q] = missT parts p ++ missT parts q := by rw [missL, missL, missL, List.append_nil]
theorem made_ev (parts : List S24) (hl : parts.length ≤ 1000000) (hs : ∀ x ∈ parts, tsize x ≤ 1000000) : ∀ (x : S24), okT x = true → Ev (fun k => pelicanref06_made.f k parts x.f0 x.f1 x.f2) (decide (missT parts x = [])) := tree_ind fun x ih hok => by
  have yes : ∀ b, b = true → missT parts x = [] → Ev (fun k => pelicanref06_made.j0 k parts b x.f0 x.f1 x.f2) (decide (missT parts x = [])) := fun b hb h => by
    subst hb
    exact Ev.step (f := fun _ => some true) (fun k => by rw [pelicanref06_made.j0, if_pos rfl]) (Ev.const (by rw [h]; rfl))
  refine Ev.step (fun k => by rw [pelicanref06_made.f]) (Ev.bind (in_ev parts x hl hs) (Ev.ite (fun h => ?_) (fun h => ?_)))
  · exact yes _ rfl (by rw [missT_eq, h]; simp)
  by_cases h0 : x.f0 = 0
  · exact yes _ (by simpa using h0) (by rw [missT_eq, if_pos h0])
  · refine Ev.step (fun k => by rw [pelicanref06_made.j0]) (Ev.no (by simpa using h0) (Ev.ite (fun h1 => Ev.const ?_) (fun h1 => ?_)))
    · rw [missT_eq, if_neg h0, if_neg h, if_pos h1]; rfl
    · obtain ⟨p, q, hpq, hp, hq⟩ := okT_fork hok h0 h1
      have e0 : rd_T24 x.f2 0 = p := by rw [hpq]; rfl
      have e1 : rd_T24 x.f2 1 = q := by rw [hpq]; rfl
      have hlen : x.f2.length = 2 := by rw [hpq]; rfl
      rw [e0, e1]
      have hm : missT parts x = missT parts p ++ missT parts q := by rw [missT_eq, if_neg h0, if_neg h, if_neg h1, hpq, missL_two]
      refine Ev.yes (by omega) (Ev.bind (ih p (by rw [hpq]; simp) hp) (Ev.yes (by omega) (Ev.bind (ih q (by rw [hpq]; simp) hq) (Ev.ite (fun h2 => Ev.const ?_) (fun h2 => Ev.const ?_)))))
      · rw [decide_eq_true_eq] at h2
        rw [hm, h2, List.nil_append]
      · rw [decide_eq_true_eq] at h2
        rw [hm, decide_eq_false (by rw [List.append_eq_nil_iff]; exact fun h => h2 h.1)]
theorem refmakes_ev (l : List S24) (t : S24) (h : lsize l ≤ 1000000) (ht : tsize t ≤ 1000000) : Ev (fun k => pelicanref06_Makes.f k l t.f0 t.f1 t.f2) (makesB l t) := by
  unfold pelicanref06_Makes.f
  have no : makesB l t = false → Ev (fun k => pelicanref06_Makes.j0 k l true t.f0 t.f1 t.f2) (makesB l t) := fun h => Ev.step (f := fun _ => some false) (fun k => by rw [pelicanref06_Makes.j0, if_pos rfl]) (Ev.const (by rw [h]))
  refine Ev.bind (refmay_ev l h) (Ev.bind (ref_may_ev t ht) (Ev.ite (fun h1 => ?_) (fun h1 => no (by unfold makesB; rw [Bool.eq_false_iff.2 h1]; rfl))))
  cases h2 : mayT t with
  | false => exact no (by unfold makesB; rw [h2]; simp)
  | true =>
    have hok := ((mayT_iff t).1 h2).1
    refine Ev.step (fun k => by rw [pelicanref06_Makes.j0]) (Ev.no (by simp) ?_)
    unfold pelicanref06_Parts.f
    rw [if_pos h, if_pos h1]
    simp only [Option.bind_some]
    refine Ev.bind (made_ev (partsOf l) (by have := parts_len l; omega) (parts_size (fun z hz => Nat.le_trans (lsize_mem l z hz) h)) t hok) (Ev.const ?_)
    unfold makesB
    rw [h1, h2]; simp
theorem out_ev (l l1 : List S24) (t : S24) (x7 : Bool) (h : x7 = true) : Ev (fun k => pelicanlaw06_KnowTells.j0 k l l1 x7 true t.f0 t.f1 t.f2) true :=
  Ev.step (f := fun _ => some x7) (fun k => by rw [pelicanlaw06_KnowTells.j0, if_pos rfl]) (Ev.const (by rw [h]))
theorem KnowTells : pelicanlaw06_KnowTells.PureS := by
  intro l l1 t hl hl1 ht
  refine Ev.rounds ?_
  unfold pelicanlaw06_KnowTells.f
  refine Ev.bind awake_ev (Ev.bind (lightAll_ev l) (Ev.bind (lightAll_ev l1) (Ev.bind (light_ev t) (Ev.yes rfl (Ev.ite (fun h1 => Ev.ite (fun h2 => ?_) (fun _ => out_ev _ _ _ _ rfl)) (fun _ => out_ev _ _ _ _ rfl))))))
  by_cases h3 : tsize t ≤ 150 ∧ tdep t ≤ 20
  · rw [decide_eq_true h3]
    obtain ⟨hz, hs⟩ := light_size h1
    have hz6 : lsize l ≤ 1000000 := by omega
    have hs6 : ∀ z ∈ l, tsize z ≤ 1000000 := fun z hz => by have := hs z hz; omega
    have hll := len_lsize l
    have ht6 : tsize t ≤ 1000000 := by omega
    refine Ev.step (fun k => by rw [pelicanlaw06_KnowTells.j0]) (Ev.no (by simp) ?_)
    have hP : pelicanref06_Parts.f l = some (if mayL l = true then partsOf l else []) := by unfold pelicanref06_Parts.f; rw [if_pos hz6]
    have hL : pelicanref06_Lacks.f l t.f0 t.f1 t.f2 = some (if mayL l = true ∧ mayT t = true then addAll [] (missT (partsOf l) t) else []) := by
      unfold pelicanref06_Lacks.f; rw [S24_eta, if_pos ⟨hz6, ht6⟩, lookT_miss]
    rw [parts_f l hz6, hP, lacks_f l t hz6 ht6, hL, makes_f l t hz6 ht6]
    unfold know_May.f know_Same.f
    simp only [Option.bind_some]
    have hpl : (if mayL l = true then partsOf l else []).length ≤ 1000000 := by split; exact Nat.le_trans (parts_len l) hz6; simp
    have hps : ∀ x ∈ (if mayL l = true then partsOf l else []), tsize x ≤ 1000000 := by split; exact parts_size hs6; simp
    have hle : ∀ x ∈ (if mayL l = true ∧ mayT t = true then addAll [] (missT (partsOf l) t) else []), tsize x ≤ 1000000 := by
      split
      · rw [← lookT_miss]; exact lookT_sizes _ _ _ _ (by simp) ht6
      · simp
    have hlo : (if mayL l = true ∧ mayT t = true then addAll [] (missT (partsOf l) t) else []).length ≤ 1000000 := by
      split
      · rw [← lookT_miss]; have := lookT_len (partsOf l) t []; simp at this; omega
      · simp
    refine Ev.bind (lists_ev _ _ hpl hps) (Ev.bind (lists_ev _ _ hlo hle) (Ev.bind (refmay_ev l hz6) (Ev.bind (refmakes_ev l t hz6 ht6) (Ev.bind (lists_ev l l1 (by omega) hs6) ?_))))
    exact Ev.yes (sameLs_self _) (Ev.yes (sameLs_self _) (Ev.yes (by simp) (Ev.yes (by simp) (Ev.const (by simp)))))
  · rw [decide_eq_false h3]
    exact out_ev _ _ _ _ rfl
end Go.Proofs.Ytfonjmggalkbjaa.Pure
