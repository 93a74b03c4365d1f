/- NumCut, NumCat and NumTells over plain data. -/
import Derived.Test.YtnhfgpffhgiejaaHPureRef
import Derived.Test.YtnhfgpffhgiejaaHStmtNumTells
import Derived.Test.YtnhfgpffhgiejaaHStmtNumCut
namespace Go.Proofs.Ytnhfgpffhgiejaa.P
open Go.RowKit Go.Proofs.YtnhfgpffhgiejaaW.PrintWords Go.Proofs.YtnhfgpffhgiejaaW.PrintLast
set_option linter.unusedVariables false
set_option linter.unusedSimpArgs false
/-- Numbers with their sizes. -/
def zipN (vs s : List Int) : List S41 := List.zipWith (fun n k => (⟨n, k⟩ : S41)) vs s
theorem zip_fits (s : List Int) : ∀ b : List Int, (∀ x ∈ b, 0 ≤ x ∧ x < 256) → okS s b.length = true → allFit (zipN (cutV b s) s) ∧ catL (zipN (cutV b s) s) = b ∧ ∀ x ∈ zipN (cutV b s) s, okN x := by
  induction s with
  | nil =>
    intro b hb h
    simp [okS] at h
    subst h
    exact ⟨by simp [zipN, cutV, allFit], rfl, by simp [zipN, cutV]⟩
  | cons k s ih =>
    intro b hb h
    simp only [okS, Bool.and_eq_true, decide_eq_true_eq] at h
    obtain ⟨⟨⟨h1, h2⟩, h3⟩, h4⟩ := h
    have hbd : ∀ x ∈ b.drop k.toNat, 0 ≤ x ∧ x < 256 := fun x hx => hb x (List.mem_of_mem_drop hx)
    have e : ((b.drop k.toNat).length : Int) = (b.length : Int) - k := by rw [List.length_drop]; omega
    obtain ⟨i1, i2, i3⟩ := ih (b.drop k.toNat) hbd (by rw [e]; exact h4)
    have hbt : ∀ x ∈ b.take k.toNat, 0 ≤ x ∧ x < 256 := fun x hx => hb x (List.mem_of_mem_take hx)
    have hv := val_bound _ hbt
    have hl : (b.take k.toNat).length = k.toNat := by rw [List.length_take]; omega
    have hbe := be_val _ hbt
    rw [hl] at hv hbe
    have hz : zipN (cutV b (k :: s)) (k :: s) = ⟨val (b.take k.toNat), k⟩ :: zipN (cutV (b.drop k.toNat) s) s := rfl
    have h9 : (256 : Int) ^ k.toNat ≤ 18446744073709551616 := by
      have hall : ∀ m, m < 9 → (256 : Int) ^ m ≤ 18446744073709551616 := by decide
      exact hall _ (by omega)
    rw [hz]
    refine ⟨(allFit_cons _ _).2 ⟨⟨h1, h2, hv.2⟩, i1⟩, ?_, fun x hx => ?_⟩
    · rw [catL_cons, i2]
      show be k.toNat (val (b.take k.toNat)) ++ _ = _
      rw [hbe, List.take_append_drop]
    · rcases List.mem_cons.1 hx with rfl | hx
      · exact ⟨⟨hv.1, by show val _ < _; omega⟩, by show _ ≤ k; omega, by show k < _; omega⟩
      · exact i3 x hx
theorem zipN_length (vs s : List Int) (h : vs.length = s.length) : (zipN vs s).length = s.length := by
  simp [zipN, h]
theorem rdi (l : List Int) (i : Nat) (h : i < l.length) : rd l (i : Int) = l[i] := by
  unfold rd
  rw [Int.toNat_natCast, List.getD_eq_getElem?_getD, List.getElem?_eq_getElem h]
  rfl
theorem okS_len (s : List Int) (r : Int) (h : okS s r = true) : r = s.sum := (okS_all s r h).2.symm
theorem NumCut_pure : pelicanlaw03_NumCut.PureS := by
  intro b s c hb0 hs0 hc
  have hb : ∀ x ∈ b, 0 ≤ x ∧ x < 256 := fun x hx => wf_u8.1 (hb0.2 x hx)
  have hb1 : b.length ≤ 9223372036854775807 := by have := hb0.1; unfold maxLen at this; omega
  have hc := wf_u8.1 hc
  have hcut := cut_ev b hb hb1 s
  have hj : b.length ≤ 400 → s.length ≤ 50 → Ev (fun k => pelicanlaw03_NumCut.j0 k b s c true false) true := by
    intro g1 g2
    refine Ev.step (f := fun k => (num_Cut.f k b s).bind fun bt => if bt.2 = true then (if (bt.1.length : Int) = (s.length : Int) then pelicanlaw03_NumCut.l0 k b s c bt.1 [] 0 else some false) else some ((bt.1.length : Int) == 0)) (fun k => by simp [pelicanlaw03_NumCut.j0]) ?_
    refine Ev.bind hcut ?_
    by_cases h : s.length ≤ 40 ∧ okS s b.length = true
    · rw [if_pos h]
      obtain ⟨h40, hok⟩ := h
      obtain ⟨z1, z2, z3⟩ := zip_fits s b hb hok
      have hvl := cutV_length s b
      have hzl := zipN_length _ _ hvl
      simp only [if_true]
      have key : ∀ d i : Nat, i + d = s.length → Ev (fun k => pelicanlaw03_NumCut.l0 k b s c (cutV b s) ((zipN (cutV b s) s).take i) (i : Int)) true := by
        intro d
        induction d with
        | zero =>
          intro i hi
          have hcat := cat_ev _ z3
          rw [if_pos ⟨by omega, z1⟩, z2] at hcat
          have hmore := cut_ev (b ++ [c]) (fun x hx => by
            rcases List.mem_append.1 hx with hx | hx
            · exact hb x hx
            · rw [List.mem_singleton.1 hx]; exact hc) (by simp; omega) s
          have hno : ¬ (s.length ≤ 40 ∧ okS s ((b ++ [c]).length : Nat) = true) := by
            rintro ⟨_, h⟩
            have e1 := okS_len s _ hok
            have e2 := okS_len s _ h
            simp at e2
            omega
          rw [if_neg hno] at hmore
          rw [List.take_of_length_le (by omega)]
          refine Ev.step (f := fun k => (num_Cat.f k (zipN (cutV b s) s)).bind fun bt => (num_Cut.f k (b ++ [c]) s).bind fun bm => if bt.2 = true then (if (strOfNums bt.1).toList = (strOfNums b).toList then some (!bm.2) else some false) else some false) (fun k => ?_) ?_
          · simp only [pelicanlaw03_NumCut.l0]
            rw [if_neg (by omega), List.nil_append]
            have q1 : ([] : List Int).length + b.length < 140737488355328 := by simp; omega
            have q2 : b.length < 140737488355328 := by omega
            simp only [if_pos q1, if_pos q2, Option.bind_some]
          · refine Ev.bind hcat (Ev.bind hmore (Ev.const ?_))
            simp
        | succ d ih =>
          intro i hi
          have ih' := ih (i + 1) (by omega)
          refine Ev.step (fun k => ?_) ih'
          simp only [pelicanlaw03_NumCut.l0]
          rw [if_pos (by omega), if_pos (by omega), if_pos (by omega), if_pos (by rw [List.length_take]; omega), w64 (by omega) (by omega), rdi _ _ (by omega), rdi _ _ (by omega)]
          have e : (zipN (cutV b s) s).take (i + 1) = (zipN (cutV b s) s).take i ++ [(⟨(cutV b s)[i], s[i]⟩ : S41)] := by
            rw [List.take_succ_eq_append_getElem (by omega)]
            simp [zipN]
          rw [e]
          rfl
      have h0 := key s.length 0 (by omega)
      have q : ((cutV b s).length : Int) = (s.length : Int) := by omega
      simp only [if_pos q]
      simpa using h0
    · rw [if_neg h]
      exact Ev.const (by simp)
  refine Ev.rounds ?_
  have hg : ∀ g : Bool, Ev (fun k => pelicanlaw03_NumCut.j0 k b s c true true) true := fun _ => Ev.step (f := fun _ => some true) (fun k => by simp [pelicanlaw03_NumCut.j0]) (Ev.const rfl)
  by_cases g1 : (b.length : Int) > 400
  · refine Ev.congr (fun k => ?_) (hg true)
    unfold pelicanlaw03_NumCut.f
    rw [awake_f, Option.bind_some, if_pos rfl, if_pos g1]
  · by_cases g2 : (s.length : Int) > 50
    · refine Ev.congr (fun k => ?_) (hg true)
      unfold pelicanlaw03_NumCut.f
      rw [awake_f, Option.bind_some, if_pos rfl, if_neg g1]
      simp [g2]
    · refine Ev.congr (fun k => ?_) (hj (by omega) (by omega))
      unfold pelicanlaw03_NumCut.f
      rw [awake_f, Option.bind_some, if_pos rfl, if_neg g1]
      simp [g2]
theorem okN_of {x : S41} (h : G41 x) : okN x := ⟨wf_u64.1 h.1, wf_i64.1 h.2⟩
theorem NumTells_pure : pelicanlaw03_NumTells.PureS := by
  intro n k b at_ l s hn hk hb hat hl hs
  have hn := wf_u64.1 hn
  have hk := wf_i64.1 hk
  have hat := wf_i64.1 hat
  have hb1 : ∀ x ∈ b, 0 ≤ x ∧ x < 256 := fun x hx => wf_u8.1 (hb.2 x hx)
  have hl1 : ∀ x ∈ l, okN x := fun x hx => okN_of (hl.2 x hx)
  have hbl : b.length ≤ 9223372036854775807 := by have := hb.1; unfold maxLen at this; omega
  refine Ev.rounds ?_
  have hg : Ev (fun k_ => pelicanlaw03_NumTells.j0 k_ n k b at_ l s true true) true := Ev.step (f := fun _ => some true) (fun k => by simp [pelicanlaw03_NumTells.j0]) (Ev.const rfl)
  have hj : b.length ≤ 400 → s.length ≤ 60 → Ev (fun k_ => pelicanlaw03_NumTells.j0 k_ n k b at_ l s true false) true := by
    intro g1 g2
    refine Ev.step (fun k_ => by simp only [pelicanlaw03_NumTells.j0]; rw [if_neg (by simp)]) ?_
    refine Ev.bind (Ev.const (put_f hn)) (Ev.bind (ref_put_ev n k hn hk) (Ev.bind (Ev.const (get_f hb1 at_ k)) (Ev.bind (ref_get_ev b hb1 hbl at_ k hat) (Ev.bind (cat_ev l hl1) (Ev.bind (ref_cat_ev l hl1) (Ev.bind (cut_ev b hb1 hbl s) (Ev.bind (ref_cut_ev b hb1 (by omega) s g2) (Ev.bind (nums_ev _ _ ?_) (Ev.const ?_)))))))))
    · split
      · rw [cutV_length]; omega
      · simp
    · simp
  by_cases g1 : (b.length : Int) > 400
  · refine Ev.congr (fun k => ?_) hg
    unfold pelicanlaw03_NumTells.f
    rw [awake_f, Option.bind_some, if_pos rfl, if_pos g1]
  · by_cases g2 : (l.length : Int) > 60
    · refine Ev.congr (fun k => ?_) hg
      unfold pelicanlaw03_NumTells.f
      rw [awake_f, Option.bind_some, if_pos rfl, if_neg g1, if_pos g2]
    · by_cases g3 : (s.length : Int) > 60
      · refine Ev.congr (fun k => ?_) hg
        unfold pelicanlaw03_NumTells.f
        rw [awake_f, Option.bind_some, if_pos rfl, if_neg g1, if_neg g2]
        simp [g3]
      · refine Ev.congr (fun k => ?_) (hj (by omega) (by omega))
        unfold pelicanlaw03_NumTells.f
        rw [awake_f, Option.bind_some, if_pos rfl, if_neg g1, if_neg g2]
        simp [g3]
end Go.Proofs.Ytnhfgpffhgiejaa.P
