/- NumCat over plain data. -/
import Derived.Test.YtnhfgpffhgiejaaHPureLast
import Derived.Test.YtnhfgpffhgiejaaHStmtNumCat
namespace Go.Proofs.Ytnhfgpffhgiejaa.P
open Go.RowKit Go.Proofs.YtnhfgpffhgiejaaW.PrintWords Go.Proofs.YtnhfgpffhgiejaaW.PrintLast
set_option linter.unusedVariables false
set_option linter.unusedSimpArgs false
theorem cut_of_cat (l : List S41) : (∀ x ∈ l, okN x) → allFit l → okS (l.map (·.f1)) ((catL l).length : Int) = true ∧ cutV (catL l) (l.map (·.f1)) = l.map (·.f0) := by
  induction l with
  | nil => intro _ _; exact ⟨rfl, rfl⟩
  | cons x l ih =>
    intro h hf
    have hx := h x (by simp)
    obtain ⟨f1, f2⟩ := (allFit_cons _ _).1 hf
    obtain ⟨i1, i2⟩ := ih (fun y hy => h y (by simp [hy])) f2
    have g1 := f1.1
    have g2 := f1.2.1
    have hl : ((catL (x :: l)).length : Int) = x.f1 + ((catL l).length : Int) := by
      rw [catL_cons, List.length_append, be_length]
      omega
    constructor
    · simp only [List.map_cons, okS, Bool.and_eq_true, decide_eq_true_eq]
      refine ⟨⟨⟨g1, g2⟩, by omega⟩, ?_⟩
      rw [hl, show x.f1 + ((catL l).length : Int) - x.f1 = ((catL l).length : Int) by omega]
      exact i1
    · simp only [List.map_cons, cutV]
      rw [catL_cons, List.take_left' (be_length _ _), List.drop_left' (be_length _ _), i2, val_be_of hx.1.1 f1]
theorem NumCat_pure : pelicanlaw03_NumCat.PureS := by
  intro l k hl0 hk0
  have hl : ∀ x ∈ l, okN x := fun x hx => okN_of (hl0.2 x hx)
  have hk : ∀ x ∈ k, okN x := fun x hx => okN_of (hk0.2 x hx)
  have hlk : ∀ x ∈ l ++ k, okN x := fun x hx => by
    rcases List.mem_append.1 hx with hx | hx
    · exact hl x hx
    · exact hk x hx
  have hfit : allFit (l ++ k) ↔ allFit l ∧ allFit k := by
    simp only [allFit, List.mem_append]
    exact ⟨fun h => ⟨fun x hx => h x (.inl hx), fun x hx => h x (.inr hx)⟩, fun h x hx => hx.elim (h.1 x) (h.2 x)⟩
  have hloop : (l ++ k).length ≤ 40 → allFit (l ++ k) → Ev (fun K => pelicanlaw03_NumCat.l0 K (l ++ k) (catL (l ++ k)) [] [] 0) true := by
    intro h40 hf
    generalize hm : l ++ k = m at *
    obtain ⟨c1, c2⟩ := cut_of_cat m hlk hf
    have key : ∀ d i : Nat, i + d = m.length → Ev (fun K => pelicanlaw03_NumCat.l0 K m (catL m) ((m.map (·.f1)).take i) ((m.map (·.f0)).take i) (i : Int)) true := by
      intro d
      induction d with
      | zero =>
        intro i hi
        have hcl : (catL m).length ≤ 9223372036854775807 := by
          have := okS_all _ _ c1
          have h8 : ∀ s : List Int, (∀ k ∈ s, 1 ≤ k ∧ k ≤ 8) → s.sum ≤ 8 * s.length := by
            intro s
            induction s with
            | nil => intro _; simp
            | cons a s ih =>
              intro h
              have h1 := h a (by simp)
              have h2 := ih fun x hx => h x (by simp [hx])
              simp
              omega
          have h9 := h8 _ this.1
          rw [this.2] at h9
          simp at h9
          omega
        have hcut := cut_ev (catL m) (catL_byte m) hcl (m.map (·.f1))
        rw [if_pos ⟨by simpa using h40, c1⟩, c2] at hcut
        rw [List.take_of_length_le (by simp; omega), List.take_of_length_le (by simp; omega)]
        refine Ev.step (f := fun K => (num_Cut.f K (catL m) (m.map (·.f1))).bind fun bt => (pelicanref03_Nums.f K bt.1 (m.map (·.f0))).bind fun t => if bt.2 = true then some t else some false) (fun K => ?_) ?_
        · simp only [pelicanlaw03_NumCat.l0]
          rw [if_neg (by omega)]
        · refine Ev.bind hcut (Ev.bind (nums_ev _ _ (by simp; omega)) (Ev.const ?_))
          simp
      | succ d ih =>
        intro i hi
        have ih' := ih (i + 1) (by omega)
        refine Ev.step (fun K => ?_) ih'
        have hrd : rd_T41 m (i : Int) = m[i] := by
          simp [rd_T41, List.getD_eq_getElem?_getD, List.getElem?_eq_getElem (show i < m.length by omega)]
        simp only [pelicanlaw03_NumCat.l0]
        rw [if_pos (by omega), if_pos (by omega), if_pos (by simp; omega), if_pos (by simp; omega), w64 (by omega) (by omega), hrd]
        have e1 : (m.map (·.f1)).take (i + 1) = (m.map (·.f1)).take i ++ [m[i].f1] := by
          rw [List.take_succ_eq_append_getElem (by simp; omega)]; simp
        have e0 : (m.map (·.f0)).take (i + 1) = (m.map (·.f0)).take i ++ [m[i].f0] := by
          rw [List.take_succ_eq_append_getElem (by simp; omega)]; simp
        rw [e1, e0]
        rfl
    simpa using key m.length 0 (by omega)
  have hj1t : (l ++ k).length ≤ 40 → allFit (l ++ k) → Ev (fun K => pelicanlaw03_NumCat.j1 K (l ++ k) (catL (l ++ k)) true false) true := fun h1 h2 =>
    Ev.step (fun K => by simp [pelicanlaw03_NumCat.j1]) (hloop h1 h2)
  have hj1f : ∀ x, Ev (fun K => pelicanlaw03_NumCat.j1 K (l ++ k) x false false) true := fun x =>
    Ev.step (f := fun _ => some true) (fun K => by simp [pelicanlaw03_NumCat.j1]) (Ev.const rfl)
  have hj : l.length ≤ 20 → k.length ≤ 20 → Ev (fun K => pelicanlaw03_NumCat.j0 K l k true false) true := by
    intro g1 g2
    have b1 : ([] : List S41).length + l.length < 8796093022208 := by simp; omega
    have b2 : l.length + k.length < 8796093022208 := by omega
    refine Ev.step (fun K => by simp only [pelicanlaw03_NumCat.j0, List.nil_append, if_pos b1, if_pos b2, Option.bind_some]; rw [if_neg (by simp)]) ?_
    refine Ev.bind (cat_ev l hl) (Ev.bind (cat_ev k hk) (Ev.bind (cat_ev (l ++ k) hlk) ?_))
    by_cases f1 : allFit l
    · by_cases f2 : allFit k
      · have f3 : allFit (l ++ k) := hfit.2 ⟨f1, f2⟩
        have hs : (strOfNums (catL (l ++ k))).toList = ((strOfNums (catL l)) ++ (strOfNums (catL k))).toList := by
          rw [toList_data_, toList_data_, ByteArray.toList_data_append, ← toList_data_, ← toList_data_, ← toList_data_, strOf_toList, strOf_toList, strOf_toList, catL_append, List.map_append]
        have hz : (strOfNums (catL l)).size + (strOfNums (catL k)).size ≤ 9223372036854775807 := by
          have hb : ∀ m : List S41, (∀ x ∈ m, okN x) → allFit m → (catL m).length ≤ 8 * m.length := by
            intro m
            induction m with
            | nil => intro _ _; simp [catL]
            | cons x m ih =>
              intro h1 h2
              obtain ⟨q1, q2⟩ := (allFit_cons _ _).1 h2
              have q3 := ih (fun y hy => h1 y (by simp [hy])) q2
              have q4 := q1.2.1
              rw [catL_cons, List.length_append, be_length]
              simp
              omega
          have := hb l hl f1
          have := hb k hk f2
          rw [strOf_size, strOf_size]
          omega
        refine Ev.congr (fun K => ?_) (hj1t (by simp; omega) f3)
        have c1 : l.length ≤ 40 := by omega
        have c2 : k.length ≤ 40 := by omega
        have c3 : l.length + k.length ≤ 40 := by omega
        simp [f1, f2, f3, c1, c2, c3, hz, hs]
      · have f3 : ¬ allFit (l ++ k) := fun h => f2 (hfit.1 h).2
        refine Ev.congr (fun K => ?_) (hj1f [])
        have c1 : l.length ≤ 40 := by omega
        simp [f1, f2, f3, c1]
    · have f3 : ¬ allFit (l ++ k) := fun h => f1 (hfit.1 h).1
      refine Ev.congr (fun K => ?_) (hj1f [])
      simp [f1, f3]
  have hg : Ev (fun K => pelicanlaw03_NumCat.j0 K l k true true) true := Ev.step (f := fun _ => some true) (fun K => by simp [pelicanlaw03_NumCat.j0]) (Ev.const rfl)
  refine Ev.rounds ?_
  by_cases g1 : (l.length : Int) > 20
  · refine Ev.congr (fun K => ?_) hg
    unfold pelicanlaw03_NumCat.f
    rw [awake_f, Option.bind_some, if_pos rfl, if_pos g1]
  · by_cases g2 : (k.length : Int) > 20
    · refine Ev.congr (fun K => ?_) hg
      unfold pelicanlaw03_NumCat.f
      rw [awake_f, Option.bind_some, if_pos rfl, if_neg g1]
      simp [g2]
    · refine Ev.congr (fun K => ?_) (hj (by omega) (by omega))
      unfold pelicanlaw03_NumCat.f
      rw [awake_f, Option.bind_some, if_pos rfl, if_neg g1]
      simp [g2]
end Go.Proofs.Ytnhfgpffhgiejaa.P
