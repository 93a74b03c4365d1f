/- KnowParts, in plain data. -/
import Derived.Test.YtfonjmggalkbjaaHKnowP
import Derived.Test.YtfonjmggalkbjaaHStmtKnowParts
namespace Go.Proofs.Ytfonjmggalkbjaa.Pure
open Go.RowKit Go.Proofs.Ytfonjmggalkbjaa.P Go.Proofs.YtfonjmggalkbjaaW.PrintWords Go.Proofs.YtfonjmggalkbjaaW.PrintLast
set_option linter.unusedVariables false
set_option linter.unusedSimpArgs false
theorem awake_ev : Ev (fun _ => pelicanlaw06_awake.f) true := Ev.const rfl
def Good (l out : List S24) : Prop := ∀ (i : Nat) (x : S24), out[i]? = some x → x ∈ l ∨ ∃ (n : Nat) (y : S24), n < i ∧ out[n]? = some y ∧ y.f0 = 2 ∧ x ∈ y.f2
def Pend (l out todo : List S24) : Prop := ∀ t ∈ todo, t ∈ l ∨ ∃ y ∈ out, y.f0 = 2 ∧ t ∈ y.f2
theorem good_parts (l : List S24) : ∀ (m : Nat) (todo out : List S24), lsize todo ≤ m → Good l out → Pend l out todo → Good l (partsW todo out) := by
  intro m
  induction m with
  | zero =>
    intro todo out h hg hp
    cases todo with
    | nil => rw [partsW_nil]; exact hg
    | cons t rest => have := tsize_pos t; rw [lsize] at h; omega
  | succ m ih =>
    intro todo out h hg hp
    cases todo with
    | nil => rw [partsW_nil]; exact hg
    | cons t rest =>
      have h1 := todoN_size t rest
      rw [partsW_cons]
      refine ih _ _ (by omega) ?_ ?_
      · unfold outN
        split
        · exact hg
        · intro i x hx
          rcases Nat.lt_or_ge i out.length with hlt | hge
          · rw [List.getElem?_append_left hlt] at hx
            rcases hg i x hx with h2 | ⟨n, y, hn, hy, h3, h4⟩
            · exact Or.inl h2
            · exact Or.inr ⟨n, y, hn, by rw [List.getElem?_append_left (by omega)]; exact hy, h3, h4⟩
          · have hi : i = out.length := by
              have := (List.getElem?_eq_some_iff.1 hx).1
              simp at this; omega
            subst hi
            simp at hx
            subst hx
            rcases hp t (by simp) with h2 | ⟨y, hy, h3, h4⟩
            · exact Or.inl h2
            · obtain ⟨n, hn⟩ := List.getElem?_of_mem hy
              have hlt := (List.getElem?_eq_some_iff.1 hn).1
              exact Or.inr ⟨n, y, hlt, by rw [List.getElem?_append_left hlt]; exact hn, h3, h4⟩
      · intro u hu
        have hsub : ∀ y, y ∈ out → y ∈ outN t out := fun y hy => (outN_mem t y out).2 (Or.inl hy)
        have hrest : ∀ v, v ∈ rest → v ∈ l ∨ ∃ y ∈ outN t out, y.f0 = 2 ∧ v ∈ y.f2 := fun v hv => (hp v (by simp [hv])).imp id (fun ⟨y, hy, h3⟩ => ⟨y, hsub y hy, h3⟩)
        unfold todoN at hu
        by_cases h2 : t.f0 = 2
        · rw [if_pos h2] at hu
          rcases List.mem_append.1 hu with hu | hu
          · exact Or.inr ⟨t, (outN_mem t t out).2 (Or.inr rfl), h2, hu⟩
          · exact hrest u hu
        · rw [if_neg h2] at hu
          exact hrest u hu
theorem good_of (l : List S24) : Good l (partsOf l) := by
  rw [← partsW_eq]
  exact good_parts l _ l [] (Nat.le_refl _) (fun i x hx => by simp at hx) (fun t ht => Or.inl ht)
theorem rd_get {l : List S24} {i : Nat} {x : S24} (h : l[i]? = some x) : rd_T24 l (i : Int) = x := by
  have hi := (List.getElem?_eq_some_iff.1 h).1
  rw [rdT_get l hi]
  exact (List.getElem?_eq_some_iff.1 h).2
theorem loop_ev (p : List S24) (hs : ∀ x ∈ p, tsize x ≤ 150) (hpl : p.length ≤ 7500) (i : Nat) (hi : i < p.length) : ∀ (d j : Nat) (b : Bool), j + d = i → (b = true ∨ ∃ (n : Nat) (y : S24), j ≤ n ∧ n < i ∧ p[n]? = some y ∧ y.f0 = 2 ∧ rd_T24 p i ∈ y.f2) →
    Ev (fun k => pelicanlaw06_KnowParts.l0 k (i : Int) p false b (j : Int)) true := by
  intro d
  induction d with
  | zero =>
    intro j b hj hb
    refine Ev.step (fun k => by rw [pelicanlaw06_KnowParts.l0]) (Ev.no (by omega) (Ev.no (by decide) (Ev.const ?_)))
    rcases hb with rfl | ⟨n, y, h1, h2, _⟩
    · rfl
    · omega
  | succ d ih =>
    intro j b hj hb
    have hjl : j < p.length := by omega
    have hw : wrap64 ((j : Int) + 1) = ((j + 1 : Nat) : Int) := by rw [cw64 (by omega) (by omega)]; rfl
    have hm := rdT_mem p hjl
    have hz := hs _ hm
    have hts := tsize_eq (rd_T24 p (j : Int))
    have hle := len_lsize (rd_T24 p (j : Int)).f2
    refine Ev.step (fun k => by rw [pelicanlaw06_KnowParts.l0, hw]) (Ev.yes (by omega) (Ev.yes (by omega) (Ev.yes (by omega) (Ev.yes (by omega) (Ev.yes (by omega) ?_)))))
    refine Ev.bind (in_ev (rd_T24 p (j : Int)).f2 (rd_T24 p (i : Int)) (by omega) (fun x hx => by have := lsize_mem _ x hx; omega)) ?_
    have hgj : p[j]? = some (rd_T24 p (j : Int)) := by rw [rdT_get p hjl]; exact List.getElem?_eq_getElem hjl
    refine Ev.ite (fun h => ih (j + 1) true (by omega) (Or.inl rfl)) (fun h => Ev.ite (fun h2 => ?_) (fun h2 => ?_))
    · refine ih (j + 1) _ (by omega) ?_
      rcases hb with hb | ⟨n, y, h3, h4, h5, h6, h7⟩
      · exact absurd hb h
      · by_cases hnj : n = j
        · subst hnj
          rw [hgj] at h5
          obtain rfl := Option.some.inj h5
          exact Or.inl ((inL_iff _ _).2 h7)
        · exact Or.inr ⟨n, y, by omega, h4, h5, h6, h7⟩
    · refine ih (j + 1) false (by omega) ?_
      rcases hb with hb | ⟨n, y, h3, h4, h5, h6, h7⟩
      · exact absurd hb h
      · by_cases hnj : n = j
        · subst hnj
          rw [hgj] at h5
          obtain rfl := Option.some.inj h5
          exact absurd h6 h2
        · exact Or.inr ⟨n, y, by omega, h4, h5, h6, h7⟩
theorem not_twice {p : List S24} (h : p.Nodup) {i : Nat} (hi : i < p.length) : inL (p.take i) (rd_T24 p i) = false := by
  rw [inL_false]
  intro hm
  rw [rdT_get p hi] at hm
  obtain ⟨n, hn⟩ := List.getElem?_of_mem hm
  have hlt := (List.getElem?_eq_some_iff.1 hn).1
  rw [List.length_take] at hlt
  rw [List.getElem?_take_of_lt (by omega), List.getElem?_eq_getElem (by omega)] at hn
  have e := (List.getElem_inj (h₀ := by omega) (h₁ := hi) h).1 (Option.some.inj hn)
  omega
theorem out_ev (l : List S24) (a b : Int) (x7 : Bool) (h : x7 = true) : Ev (fun k => pelicanlaw06_KnowParts.j0 k l a b x7 true) true :=
  Ev.step (f := fun _ => some x7) (fun k => by rw [pelicanlaw06_KnowParts.j0, if_pos rfl]) (Ev.const (by rw [h]))
theorem KnowParts : pelicanlaw06_KnowParts.PureS := by
  intro l i q hl hi hq
  refine Ev.rounds ?_
  unfold pelicanlaw06_KnowParts.f
  refine Ev.bind awake_ev (Ev.bind (lightAll_ev l) (Ev.yes rfl (Ev.ite (fun h1 => ?_) (fun _ => out_ev _ _ _ _ rfl))))
  obtain ⟨hz, hs⟩ := light_size h1
  have hz6 : lsize l ≤ 1000000 := by omega
  have hs6 : ∀ z ∈ l, tsize z ≤ 1000000 := fun z hz => by have := hs z hz; omega
  have hll := len_lsize l
  unfold know_May.f
  simp only [Option.bind_some]
  cases hm : mayL l with
  | false => exact out_ev _ _ _ _ rfl
  | true =>
    refine Ev.step (fun k => by rw [pelicanlaw06_KnowParts.j0]) (Ev.no (by simp) ?_)
    rw [parts_f l hz6, if_pos hm]
    simp only [Option.bind_some]
    have hpl := parts_len l
    have hps := parts_size hs
    have hps6 : ∀ x ∈ partsOf l, tsize x ≤ 1000000 := fun x hx => by have := hps x hx; omega
    have e3 : Ev (fun k => pelicanlaw06_KnowParts.j2 k l i (partsOf l)) true := by
      refine Ev.step (fun k => by rw [pelicanlaw06_KnowParts.j2]) (Ev.ite (fun h => ?_) (fun h => ?_))
      · exact Ev.step (f := fun _ => some true) (fun k => by rw [pelicanlaw06_KnowParts.j3, if_pos rfl]) (Ev.const rfl)
      · by_cases hge : i ≥ ((partsOf l).length : Int)
        · rw [decide_eq_true hge]
          exact Ev.step (f := fun _ => some true) (fun k => by rw [pelicanlaw06_KnowParts.j3, if_pos rfl]) (Ev.const rfl)
        · rw [decide_eq_false hge]
          obtain ⟨n, rfl⟩ := Int.eq_ofNat_of_zero_le (show 0 ≤ i by omega)
          have hn : n < (partsOf l).length := by omega
          refine Ev.step (fun k => by rw [pelicanlaw06_KnowParts.j3]) (Ev.no (by simp) (Ev.yes (by omega) (Ev.yes (by omega) (Ev.yes (by omega) ?_))))
          refine Ev.bind (in_ev ((partsOf l).take (n : Int).toNat) (rd_T24 (partsOf l) n) (by rw [List.length_take]; omega) (fun x hx => hps6 x (List.mem_of_mem_take hx))) (Ev.bind (in_ev l (rd_T24 (partsOf l) n) (by omega) hs6) ?_)
          rw [Int.toNat_natCast, not_twice (parts_nodup l) hn]
          refine loop_ev (partsOf l) hps (by omega) n hn n 0 _ (by omega) ?_
          have hg := good_of l n (rd_T24 (partsOf l) n) (by rw [rdT_get _ hn]; exact List.getElem?_eq_getElem hn)
          rcases hg with hg | ⟨m, y, h4, h5, h6, h7⟩
          · exact Or.inl ((inL_iff _ _).2 hg)
          · exact Or.inr ⟨m, y, by omega, h4, h5, h6, h7⟩
    have e1 : ∀ b, (b = true → 0 ≤ q ∧ q < (l.length : Int)) → Ev (fun k => pelicanlaw06_KnowParts.j1 k l i q (partsOf l) b) true := by
      intro b hb
      refine Ev.step (fun k => by rw [pelicanlaw06_KnowParts.j1]) (Ev.ite (fun h => ?_) (fun h => e3))
      obtain ⟨h0, h2⟩ := hb h
      obtain ⟨n, rfl⟩ := Int.eq_ofNat_of_zero_le h0
      refine Ev.yes h0 (Ev.yes h2 (Ev.bind (in_ev (partsOf l) (rd_T24 l n) (by omega) hps6) ?_))
      rw [(inL_iff (partsOf l) (rd_T24 l n)).2 ((mem_parts l _).2 (reachL_self (rdT_mem l (by omega))))]
      exact Ev.yes rfl e3
    refine Ev.ite (fun h => e1 _ (fun hb => ⟨h, of_decide_eq_true hb⟩)) (fun h => e1 false (fun hb => by cases hb))
end Go.Proofs.Ytfonjmggalkbjaa.Pure
