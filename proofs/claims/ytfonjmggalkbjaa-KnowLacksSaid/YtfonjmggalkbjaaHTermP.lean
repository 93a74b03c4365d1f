/- Plain facts about terms: size, depth, sameness, rows; and what the references answer. -/
import Derived.Test.YtfonjmggalkbjaaPx3
import Derived.Test.YtfonjmggalkbjaaPx5
import Derived.Test.YtfonjmggalkbjaaPx7
import Derived.Test.YtfonjmggalkbjaaPx7
import Derived.Test.YtfonjmggalkbjaaPx1
import Derived.Test.YtfonjmggalkbjaaPx8
import Derived.Test.YtfonjmggalkbjaaPx8
import Derived.Test.YtfonjmggalkbjaaHWalk
import Derived.Test.YtfonjmggalkbjaaHSame
import Derived.Test.YtfonjmggalkbjaaHPureKit
namespace Go.Proofs.Ytfonjmggalkbjaa.P
open Go.RowKit Go.Proofs.YtfonjmggalkbjaaW.PrintWords Go.Proofs.YtfonjmggalkbjaaW.PrintLast
set_option linter.unusedVariables false
set_option linter.unusedSimpArgs false
mutual
def tdep : S24 → Nat
  | ⟨_, _, l⟩ => ldep l + 1
def ldep : List S24 → Nat
  | [] => 0
  | x :: l => max (tdep x) (ldep l)
end
mutual
def okT : S24 → Bool
  | ⟨a, b, l⟩ => nodeB a b l.length && okL l
def okL : List S24 → Bool
  | [] => true
  | x :: l => okT x && okL l
end
theorem tdep_eq (x : S24) : tdep x = ldep x.f2 + 1 := by cases x; rw [tdep]
theorem okT_eq (x : S24) : okT x = (nodeB x.f0 x.f1 x.f2.length && okL x.f2) := by cases x; rw [okT]
theorem S24_eta (x : S24) : (⟨x.f0, x.f1, x.f2⟩ : S24) = x := by cases x; rfl
theorem tree_ind {P : S24 → Prop} (h : ∀ x, (∀ y ∈ x.f2, P y) → P x) : ∀ x, P x := by
  have key : ∀ m x, tsize x ≤ m → P x := by
    intro m
    induction m with
    | zero => intro x hx; have := tsize_eq x; omega
    | succ m ih =>
      intro x hx
      refine h x fun y hy => ih y ?_
      have h1 := tsize_eq x
      have h2 := lsize_mem x.f2 y hy
      omega
  exact fun x => key _ x (Nat.le_refl _)
theorem len_lsize : ∀ l : List S24, l.length ≤ lsize l
  | [] => by simp
  | x :: l => by have h1 := len_lsize l; have h2 := tsize_eq x; rw [lsize, List.length_cons]; omega
theorem drop_cons {l s : List S24} {y : S24} {i : Nat} (h : l.drop i = y :: s) : i < l.length ∧ rd_T24 l (i : Int) = y ∧ l.drop (i + 1) = s ∧ y ∈ l := by
  have hi : i < l.length := by
    rcases Nat.lt_or_ge i l.length with h1 | h1
    · exact h1
    · rw [List.drop_of_length_le h1] at h; cases h
  have h2 := List.drop_eq_getElem_cons hi
  rw [h] at h2
  injection h2 with h3 h4
  exact ⟨hi, by rw [rdT_get l hi]; exact h3.symm, h4.symm, by rw [h3]; exact List.getElem_mem hi⟩
theorem drop_nil {l : List S24} {i : Nat} (h : l.drop i = []) : l.length ≤ i := by
  rcases Nat.lt_or_ge i l.length with h1 | h1
  · rw [List.drop_eq_getElem_cons h1] at h; cases h
  · exact h1
theorem lsize_drop : ∀ (l : List S24) (i : Nat), lsize (l.drop i) ≤ lsize l
  | [], i => by simp
  | x :: l, 0 => by simp
  | x :: l, i + 1 => by have := lsize_drop l i; rw [List.drop_succ_cons]; rw [lsize]; omega
theorem ldep_lsize (l : List S24) (h : ∀ y ∈ l, tdep y ≤ tsize y) : ldep l ≤ lsize l := by
  induction l with
  | nil => simp [ldep]
  | cons x l ih =>
    have h1 := h x (by simp)
    have h2 := ih fun y hy => h y (by simp [hy])
    rw [ldep, lsize]; omega
theorem tdep_tsize : ∀ x, tdep x ≤ tsize x := tree_ind fun x ih => by
  have := ldep_lsize x.f2 ih
  rw [tdep_eq, tsize_eq]; omega
theorem tsize_pos (x : S24) : 1 ≤ tsize x := by rw [tsize_eq]; omega
theorem tdep_pos (x : S24) : 1 ≤ tdep x := by rw [tdep_eq]; omega

/-! #### how many nodes -/
def nodV (x : S24) (most deep : Int) : Int := if (tsize x : Int) ≤ most ∧ (tdep x : Int) ≤ deep then tsize x else most + 1
theorem nodes_loop (a b : Int) (l : List S24) (most deep : Int) (h0 : 0 ≤ most) (h1 : most ≤ 1000) (h2 : 1 ≤ deep) (h3 : deep ≤ 1000)
    (ih : ∀ y ∈ l, ∀ m d : Int, 0 ≤ m → m ≤ 1000 → 0 ≤ d → d ≤ 1000 → Ev (fun k => pelicanref05_Nodes.f k y.f0 y.f1 y.f2 m d) (nodV y m d)) :
    ∀ (s : List S24) (i : Nat) (n : Int), l.drop i = s → (i : Int) + 1 ≤ n → n ≤ most + 1 →
      Ev (fun k => pelicanref05_Nodes.l0 k most deep n (i : Int) a b l) (if n + lsize s ≤ most ∧ (ldep s : Int) + 1 ≤ deep then n + lsize s else most + 1) := by
  intro s
  induction s with
  | nil =>
    intro i n hs hi hn
    have hl := drop_nil hs
    refine Ev.step (f := fun _ => some n) (fun k => ?_) (Ev.const ?_)
    · rw [pelicanref05_Nodes.l0, if_neg (by omega)]
    · rw [lsize, ldep]
      by_cases h : n ≤ most
      · rw [if_pos (by omega)]; simp
      · rw [if_neg (by omega)]; congr 1; omega
  | cons y s ihs =>
    intro i n hs hi hn
    obtain ⟨hl, hr, hd, hm⟩ := drop_cons hs
    rw [lsize, ldep]
    by_cases hc : n ≤ most
    · have e1 : wrap64 (most - n) = most - n := w64 (by omega) (by omega)
      have e2 : wrap64 (deep - 1) = deep - 1 := w64 (by omega) (by omega)
      refine Ev.step (f := fun k => (pelicanref05_Nodes.f k y.f0 y.f1 y.f2 (most - n) (deep - 1)).bind fun t => pelicanref05_Nodes.l0 k most deep (wrap64 (n + t)) ((i + 1 : Nat) : Int) a b l) (fun k => ?_) ?_
      · rw [pelicanref05_Nodes.l0, if_pos (by omega), if_pos hc, if_pos (by omega), hr, e1, e2, w64 (x := (i : Int) + 1) (by omega) (by omega)]
        rfl
      · refine Ev.bind (ih y hm (most - n) (deep - 1) (by omega) (by omega) (by omega) (by omega)) ?_
        have hp := tsize_pos y
        have hv : 1 ≤ nodV y (most - n) (deep - 1) ∧ nodV y (most - n) (deep - 1) ≤ most - n + 1 := by
          unfold nodV; split <;> omega
        rw [w64 (by omega) (by omega)]
        have := ihs (i + 1) (n + nodV y (most - n) (deep - 1)) hd (by omega) (by omega)
        refine (congrArg (Ev _) ?_).mp this
        unfold nodV
        by_cases hq : (tsize y : Int) ≤ most - n ∧ (tdep y : Int) ≤ deep - 1
        · rw [if_pos hq]
          by_cases hz : n + (tsize y : Int) + lsize s ≤ most ∧ (ldep s : Int) + 1 ≤ deep
          · rw [if_pos hz, if_pos (by omega)]; omega
          · rw [if_neg hz, if_neg (by omega)]
        · rw [if_neg hq, if_neg (by omega), if_neg (by omega)]
    · refine Ev.step (f := fun _ => some n) (fun k => ?_) (Ev.const ?_)
      · rw [pelicanref05_Nodes.l0, if_pos (by omega), if_neg hc]
      · rw [if_neg (by omega)]; congr 1; omega
theorem nodes_ev : ∀ (x : S24) (m d : Int), 0 ≤ m → m ≤ 1000 → 0 ≤ d → d ≤ 1000 → Ev (fun k => pelicanref05_Nodes.f k x.f0 x.f1 x.f2 m d) (nodV x m d) := tree_ind fun x ih m d h0 h1 h2 h3 => by
  have hp := tdep_pos x
  by_cases hd : d ≤ 0
  · refine Ev.step (f := fun _ => some (m + 1)) (fun k => ?_) (Ev.const ?_)
    · rw [pelicanref05_Nodes.f, if_pos hd, w64 (by omega) (by omega)]
    · unfold nodV; rw [if_neg (by omega)]
  · refine Ev.step (f := fun k => pelicanref05_Nodes.l0 k m d 1 ((0 : Nat) : Int) x.f0 x.f1 x.f2) (fun k => ?_) ?_
    · rw [pelicanref05_Nodes.f, if_neg hd]; rfl
    · have := nodes_loop x.f0 x.f1 x.f2 m d h0 h1 (by omega) h3 ih x.f2 0 1 rfl (by omega) (by omega)
      refine (congrArg (Ev _) ?_).mp this
      unfold nodV
      rw [tsize_eq, tdep_eq]
      split <;> split <;> omega
theorem light_ev (x : S24) : Ev (fun k => pelicanref05_Light.f k x.f0 x.f1 x.f2) (decide (tsize x ≤ 150 ∧ tdep x ≤ 20)) := by
  unfold pelicanref05_Light.f
  refine Ev.bind (nodes_ev x 150 20 (by omega) (by omega) (by omega) (by omega)) (Ev.const ?_)
  congr 1
  have hp := tsize_pos x
  rw [decide_eq_decide]
  unfold nodV
  split <;> omega

/-! #### size, depth -/
theorem ref_size_loop (a b : Int) (l : List S24) (hl : lsize l ≤ 1000000) (ih : ∀ y ∈ l, tsize y ≤ 1000000 → Ev (fun k => pelicanref05_Size.f k y.f0 y.f1 y.f2) (tsize y : Int)) :
    ∀ (s : List S24) (i n : Nat), l.drop i = s → n + lsize s ≤ 2000000 → Ev (fun k => pelicanref05_Size.l0 k (n : Int) (i : Int) a b l) ((n + lsize s : Nat) : Int) := by
  intro s
  induction s with
  | nil =>
    intro i n hs hn
    have hl := drop_nil hs
    refine Ev.step (f := fun _ => some (n : Int)) (fun k => ?_) (Ev.const (by simp [lsize]))
    rw [pelicanref05_Size.l0, if_neg (by omega)]
  | cons y s ihs =>
    intro i n hs hn
    obtain ⟨hi, hr, hd, hm⟩ := drop_cons hs
    have h1 := lsize_mem l y hm
    have h2 := len_lsize l
    rw [lsize] at hn ⊢
    refine Ev.step (f := fun k => (pelicanref05_Size.f k y.f0 y.f1 y.f2).bind fun t => pelicanref05_Size.l0 k (wrap64 ((n : Int) + t)) ((i + 1 : Nat) : Int) a b l) (fun k => ?_) ?_
    · rw [pelicanref05_Size.l0, if_pos (by omega), if_pos (by omega), hr, w64 (x := (i : Int) + 1) (by omega) (by omega)]
      rfl
    · refine Ev.bind (ih y hm (by omega)) ?_
      rw [w64 (by omega) (by omega)]
      have := ihs (i + 1) (n + tsize y) hd (by omega)
      rw [Nat.add_assoc] at this
      exact this
theorem ref_size_ev : ∀ x : S24, tsize x ≤ 1000000 → Ev (fun k => pelicanref05_Size.f k x.f0 x.f1 x.f2) (tsize x : Int) := tree_ind fun x ih hx => by
  have h1 := tsize_eq x
  have := ref_size_loop x.f0 x.f1 x.f2 (by omega) (fun y hy hs => ih y hy hs) x.f2 0 1 rfl (by omega)
  rw [h1, Nat.add_comm]
  exact Ev.step (fun k => by rw [pelicanref05_Size.f]; rfl) this
theorem ref_depth_loop (a b : Int) (l : List S24) (hl : lsize l ≤ 1000000) (ih : ∀ y ∈ l, tsize y ≤ 1000000 → Ev (fun k => pelicanref05_Depth.f k y.f0 y.f1 y.f2) (tdep y : Int)) :
    ∀ (s : List S24) (i n : Nat), l.drop i = s → n ≤ 1000000 → Ev (fun k => pelicanref05_Depth.l0 k (n : Int) (i : Int) a b l) ((max n (ldep s) + 1 : Nat) : Int) := by
  intro s
  induction s with
  | nil =>
    intro i n hs hn
    have hl := drop_nil hs
    refine Ev.step (f := fun _ => some ((n : Int) + 1)) (fun k => ?_) (Ev.const (by simp [ldep]))
    rw [pelicanref05_Depth.l0, if_neg (by omega), w64 (by omega) (by omega)]
  | cons y s ihs =>
    intro i n hs hn
    obtain ⟨hi, hr, hd, hm⟩ := drop_cons hs
    have h1 := lsize_mem l y hm
    have h2 := len_lsize l
    have h3 := tdep_tsize y
    rw [ldep]
    refine Ev.step (f := fun k => (pelicanref05_Depth.f k y.f0 y.f1 y.f2).bind fun t => if t > (n : Int) then pelicanref05_Depth.l0 k t ((i + 1 : Nat) : Int) a b l else pelicanref05_Depth.l0 k (n : Int) ((i + 1 : Nat) : Int) a b l) (fun k => ?_) ?_
    · rw [pelicanref05_Depth.l0, if_pos (by omega), if_pos (by omega), hr, w64 (x := (i : Int) + 1) (by omega) (by omega)]
      rfl
    · refine Ev.bind (ih y hm (by omega)) (Ev.ite (fun h => ?_) (fun h => ?_))
      · have := ihs (i + 1) (tdep y) hd (by omega)
        refine (congrArg (Ev _) ?_).mp this
        omega
      · have := ihs (i + 1) n hd (by omega)
        refine (congrArg (Ev _) ?_).mp this
        omega
theorem ref_depth_ev : ∀ x : S24, tsize x ≤ 1000000 → Ev (fun k => pelicanref05_Depth.f k x.f0 x.f1 x.f2) (tdep x : Int) := tree_ind fun x ih hx => by
  have h1 := tsize_eq x
  have := ref_depth_loop x.f0 x.f1 x.f2 (by omega) (fun y hy hs => ih y hy hs) x.f2 0 0 rfl (by omega)
  rw [tdep_eq]
  refine Ev.step (fun k => by rw [pelicanref05_Depth.f]; rfl) ((congrArg (Ev _) ?_).mp this)
  omega
theorem foldL_size (l : List S24) (ih : ∀ y ∈ l, ∀ (s d : Int), 0 ≤ s → s + tsize y ≤ 1000000000 → foldT step_Size s y d = s + tsize y) : ∀ (s d : Int), 0 ≤ s → s + lsize l ≤ 1000000000 → foldL step_Size s l d = s + lsize l := by
  induction l with
  | nil => intro s d h0 h1; simp [foldL, lsize]
  | cons y l ihl =>
    intro s d h0 h1
    rw [lsize] at h1 ⊢
    rw [foldL, ih y (by simp) s d h0 (by omega), ihl (fun z hz => ih z (by simp [hz])) _ d (by omega) (by omega)]
    omega
theorem fold_size : ∀ (x : S24) (s d : Int), 0 ≤ s → s + tsize x ≤ 1000000000 → foldT step_Size s x d = s + tsize x := tree_ind fun x ih s d h0 h1 => by
  have hx := tsize_eq x
  rw [foldT_eq, foldL_size x.f2 ih _ _ (by unfold step_Size; rw [w64 (by omega) (by omega)]; omega) (by unfold step_Size; rw [w64 (by omega) (by omega)]; omega)]
  unfold step_Size
  rw [w64 (by omega) (by omega)]
  omega
theorem foldL_may (l : List S24) (ih : ∀ y ∈ l, ∀ (s : Bool) (d : Int), 1 ≤ d → d + tsize y ≤ 1000000000 → foldT step_May s y d = (s && okT y && decide (d + tdep y - 1 ≤ 12))) : ∀ (s : Bool) (d : Int), 1 ≤ d → d + lsize l ≤ 1000000000 → foldL step_May s l d = (s && okL l && (decide (l = []) || decide (d + ldep l - 1 ≤ 12))) := by
  induction l with
  | nil => intro s d h0 h1; simp [foldL, okL]
  | cons y l ihl =>
    intro s d h0 h1
    have hd := tdep_pos y
    rw [lsize] at h1
    rw [foldL, ih y (by simp) s d h0 (by omega), ihl (fun z hz => ih z (by simp [hz])) _ d (by omega) (by omega), ldep, okL]
    by_cases e : l = []
    · subst e
      rw [okL, ldep, Bool.eq_iff_iff]
      simp only [Bool.and_eq_true, Bool.or_eq_true, decide_eq_true_eq]
      constructor
      · rintro ⟨⟨⟨⟨h1, h2⟩, h3⟩, h4⟩, h5⟩
        exact ⟨⟨h1, h2, h4⟩, Or.inr (by omega)⟩
      · rintro ⟨⟨h1, h2, h3⟩, h4⟩
        rcases h4 with h4 | h4
        · cases h4
        · exact ⟨⟨⟨⟨h1, h2⟩, by omega⟩, h3⟩, Or.inl trivial⟩
    · rw [Bool.eq_iff_iff]
      simp only [Bool.and_eq_true, Bool.or_eq_true, decide_eq_true_eq]
      constructor
      · rintro ⟨⟨⟨⟨h1, h2⟩, h3⟩, h4⟩, h5⟩
        rcases h5 with h5 | h5
        · exact absurd h5 e
        · exact ⟨⟨h1, h2, h4⟩, Or.inr (by omega)⟩
      · rintro ⟨⟨h1, h2, h3⟩, h4⟩
        rcases h4 with h4 | h4
        · cases h4
        · exact ⟨⟨⟨⟨h1, h2⟩, by omega⟩, h3⟩, Or.inr (by omega)⟩
theorem fold_may : ∀ (x : S24) (s : Bool) (d : Int), 1 ≤ d → d + tsize x ≤ 1000000000 → foldT step_May s x d = (s && okT x && decide (d + tdep x - 1 ≤ 12)) := tree_ind fun x ih s d h0 h1 => by
  have hx := tsize_eq x
  rw [foldT_eq, w64 (x := d + 1) (by omega) (by omega), foldL_may x.f2 ih _ _ (by omega) (by omega), tdep_eq, okT_eq]
  unfold step_May
  rw [Bool.eq_iff_iff]
  simp only [Bool.and_eq_true, Bool.or_eq_true, decide_eq_true_eq]
  by_cases e : x.f2 = []
  · rw [e, ldep]
    constructor
    · rintro ⟨⟨⟨⟨h1, h2⟩, h3⟩, h4⟩, h5⟩
      exact ⟨⟨h1, h2, h4⟩, by omega⟩
    · rintro ⟨⟨h1, h2, h4⟩, h3⟩
      exact ⟨⟨⟨⟨h1, h2⟩, by omega⟩, h4⟩, Or.inl rfl⟩
  · constructor
    · rintro ⟨⟨⟨⟨h1, h2⟩, h3⟩, h4⟩, h5⟩
      rcases h5 with h5 | h5
      · exact absurd h5 e
      · exact ⟨⟨h1, h2, h4⟩, by omega⟩
    · rintro ⟨⟨h1, h2, h4⟩, h3⟩
      exact ⟨⟨⟨⟨h1, h2⟩, by omega⟩, h4⟩, Or.inr (by omega)⟩
def mayT (x : S24) : Bool := okT x && (decide (tsize x ≤ 60) && decide (tdep x ≤ 12))
theorem size_f (x : S24) (h : tsize x ≤ 1000000) : term_Size.f x.f0 x.f1 x.f2 = some (tsize x : Int) := by
  unfold term_Size.f
  rw [S24_eta, fold_size x 0 1 (by omega) (by omega)]
  congr 1; omega
theorem may_f (x : S24) (h : tsize x ≤ 1000000) : term_May.f x.f0 x.f1 x.f2 = some (mayT x) := by
  unfold term_May.f mayB mayT
  rw [S24_eta, fold_size x 0 1 (by omega) (by omega), fold_may x true 1 (by omega) (by omega)]
  congr 1
  rw [Bool.eq_iff_iff]
  simp only [Bool.and_eq_true, Bool.true_and, decide_eq_true_eq]
  constructor
  · rintro ⟨⟨h1, h2⟩, h3⟩
    exact ⟨h1, by omega, by omega⟩
  · rintro ⟨h1, h2, h3⟩
    exact ⟨⟨h1, by omega⟩, by omega⟩

/-! #### may be -/
theorem ref_nodes_loop (a b : Int) (l : List S24) (hl : lsize l ≤ 1000000) (ih : ∀ y ∈ l, tsize y ≤ 1000000 → Ev (fun k => pelicanref05_nodes.f k y.f0 y.f1 y.f2) (okT y)) :
    ∀ (s : List S24) (i : Nat), l.drop i = s → Ev (fun k => pelicanref05_nodes.l0 k (i : Int) a b l) (okL s) := by
  intro s
  induction s with
  | nil =>
    intro i hs
    have hl := drop_nil hs
    refine Ev.step (f := fun _ => some true) (fun k => ?_) (Ev.const (by rw [okL]))
    rw [pelicanref05_nodes.l0, if_neg (by omega)]
  | cons y s ihs =>
    intro i hs
    obtain ⟨hi, hr, hd, hm⟩ := drop_cons hs
    have h1 := lsize_mem l y hm
    have h2 := len_lsize l
    rw [okL]
    refine Ev.step (f := fun k => (pelicanref05_nodes.f k y.f0 y.f1 y.f2).bind fun t => if t = true then pelicanref05_nodes.l0 k ((i + 1 : Nat) : Int) a b l else some false) (fun k => ?_) ?_
    · rw [pelicanref05_nodes.l0, if_pos (by omega), if_pos (by omega), hr, w64 (x := (i : Int) + 1) (by omega) (by omega)]
      rfl
    · refine Ev.bind (ih y hm (by omega)) (Ev.ite (fun h => ?_) (fun h => ?_))
      · rw [h, Bool.true_and]; exact ihs (i + 1) hd
      · refine Ev.const ?_
        rw [Bool.eq_false_iff.2 h, Bool.false_and]
theorem ref_nodes_j2 (a b : Int) (l : List S24) {r : Bool} (h : Ev (fun k => pelicanref05_nodes.l0 k ((0 : Nat) : Int) a b l) r) (bad : Bool) : Ev (fun k => pelicanref05_nodes.j2 k bad a b l) (!bad && r) := by
  cases bad
  · exact Ev.step (fun k => by rw [pelicanref05_nodes.j2, if_neg (by simp)]; rfl) h
  · exact Ev.step (f := fun _ => some false) (fun k => by rw [pelicanref05_nodes.j2, if_pos rfl]) (Ev.const rfl)
theorem ref_nodes_ev : ∀ x : S24, tsize x ≤ 1000000 → Ev (fun k => pelicanref05_nodes.f k x.f0 x.f1 x.f2) (okT x) := tree_ind fun x ih hx => by
  have h1 := tsize_eq x
  have hloop := ref_nodes_loop x.f0 x.f1 x.f2 (by omega) (fun y hy hs => ih y hy hs) x.f2 0 rfl
  have h2 := ref_nodes_j2 x.f0 x.f1 x.f2 hloop
  rw [okT_eq]
  generalize okL x.f2 = q at h2 ⊢
  generalize x.f0 = a at h2 ⊢
  generalize x.f1 = b at h2 ⊢
  generalize x.f2 = l at h2 ⊢
  clear hloop ih hx h1
  have key : ∀ bad : Bool, (!bad) = nodeB a b l.length → Ev (fun k => pelicanref05_nodes.j2 k bad a b l) (nodeB a b l.length && q) := fun bad hb => by rw [← hb]; exact h2 bad
  by_cases h01 : a = 0 ∨ a = 1
  · have e2 : a ≠ 2 := by omega
    have e3 : (a == 3) = false := by simp; omega
    refine Ev.step (f := fun k => pelicanref05_nodes.j0 k true a b l) (fun k => ?_) (Ev.step (f := fun k => pelicanref05_nodes.j1 k true false a b l) (fun k => ?_) ?_)
    · rw [pelicanref05_nodes.f]
      by_cases h0 : a = 0
      · rw [if_pos h0]
      · rw [if_neg h0, show (a == 1) = true by simp; omega]
    · rw [pelicanref05_nodes.j0, if_neg e2, e3]
    · by_cases hb : b < 0
      · refine Ev.step (fun k => by rw [pelicanref05_nodes.j1, if_pos rfl, if_pos hb]) (key true ?_)
        unfold nodeB; rw [if_pos h01, decide_eq_false (by omega)]; rfl
      · by_cases hl : l.length = 0
        · refine Ev.step (fun k => by rw [pelicanref05_nodes.j1, if_pos rfl, if_neg hb, if_pos (by omega), if_neg (by simp)]) (key false ?_)
          unfold nodeB; rw [if_pos h01, decide_eq_true (by omega), decide_eq_true hl]; rfl
        · refine Ev.step (fun k => by rw [pelicanref05_nodes.j1, if_pos rfl, if_neg hb, if_neg (by omega)]) (key true ?_)
          unfold nodeB; rw [if_pos h01, decide_eq_false hl, Bool.and_false]; rfl
  · have e0 : a ≠ 0 := by omega
    have e1 : (a == 1) = false := by simp; omega
    refine Ev.step (f := fun k => pelicanref05_nodes.j0 k false a b l) (fun k => by rw [pelicanref05_nodes.f, if_neg e0, e1]) ?_
    by_cases h23 : a = 2 ∨ a = 3
    · refine Ev.step (f := fun k => pelicanref05_nodes.j1 k false true a b l) (fun k => ?_) ?_
      · rw [pelicanref05_nodes.j0]
        by_cases h2 : a = 2
        · rw [if_pos h2]
        · rw [if_neg h2, show (a == 3) = true by simp; omega]
      · by_cases hb : b = 0
        · refine Ev.step (fun k => by rw [pelicanref05_nodes.j1, if_neg (by simp), if_pos rfl, if_pos hb]) (key _ ?_)
          unfold nodeB; rw [if_neg h01, if_pos h23, decide_eq_true hb, Bool.true_and]
          by_cases hl : l.length = 2
          · rw [decide_eq_true hl]; simp; omega
          · rw [decide_eq_false hl]; simp; omega
        · refine Ev.step (fun k => by rw [pelicanref05_nodes.j1, if_neg (by simp), if_pos rfl, if_neg hb]) (key true ?_)
          unfold nodeB; rw [if_neg h01, if_pos h23, decide_eq_false hb]; rfl
    · have e2 : a ≠ 2 := by omega
      have e3 : (a == 3) = false := by simp; omega
      refine Ev.step (f := fun k => pelicanref05_nodes.j1 k false false a b l) (fun k => by rw [pelicanref05_nodes.j0, if_neg e2, e3]) ?_
      refine Ev.step (fun k => by rw [pelicanref05_nodes.j1, if_neg (by simp), if_neg (by simp)]) (key true ?_)
      unfold nodeB; rw [if_neg h01, if_neg h23]; rfl
theorem ref_may_ev (x : S24) (h : tsize x ≤ 1000000) : Ev (fun k => pelicanref05_May.f k x.f0 x.f1 x.f2) (mayT x) := by
  unfold pelicanref05_May.f mayT
  refine Ev.bind (ref_nodes_ev x h) (Ev.ite (fun h1 => ?_) (fun h1 => ?_))
  · rw [h1, Bool.true_and]
    refine Ev.bind (ref_size_ev x h) (Ev.ite (fun h2 => ?_) (fun h2 => ?_))
    · rw [decide_eq_true (show tsize x ≤ 60 by omega), Bool.true_and]
      refine Ev.bind (ref_depth_ev x h) (Ev.const ?_)
      congr 1
      rw [decide_eq_decide]; omega
    · rw [decide_eq_false (show ¬ tsize x ≤ 60 by omega), Bool.false_and]
      exact Ev.const rfl
  · rw [Bool.eq_false_iff.2 h1, Bool.false_and]
    exact Ev.const rfl

/-! #### the same -/
theorem sameLs_iff (l : List S24) (ih : ∀ x ∈ l, ∀ y, sameT x y = true ↔ x = y) : ∀ k, sameLs l k = true ↔ l = k := by
  induction l with
  | nil => intro k; cases k <;> simp [sameLs]
  | cons x l ihl =>
    intro k
    cases k with
    | nil => simp [sameLs]
    | cons y k =>
      rw [sameLs, Bool.and_eq_true, ih x (by simp) y, ihl (fun z hz => ih z (by simp [hz])) k]
      simp
theorem sameT_iff : ∀ x y : S24, sameT x y = true ↔ x = y := tree_ind fun x ih y => by
  rw [sameT_eq, Bool.and_eq_true, Bool.and_eq_true, beq_iff_eq, beq_iff_eq, sameLs_iff x.f2 ih y.f2]
  cases x; cases y; simp
theorem sameT_self (x : S24) : sameT x x = true := (sameT_iff x x).2 rfl
theorem sameT_comm (x y : S24) : sameT x y = sameT y x := by
  rw [Bool.eq_iff_iff, sameT_iff, sameT_iff]; exact ⟨Eq.symm, Eq.symm⟩
theorem same_f (x y : S24) : term_Same.f x.f0 x.f1 x.f2 y.f0 y.f1 y.f2 = some (sameT x y) := by
  unfold term_Same.f
  rw [S24_eta, S24_eta]
theorem ref_same_loop (a b a' b' : Int) (l l' : List S24) (hl : lsize l ≤ 1000000) (he : l.length = l'.length) (ih : ∀ y ∈ l, tsize y ≤ 1000000 → ∀ z, Ev (fun k => pelicanref05_Same.f k y.f0 y.f1 y.f2 z.f0 z.f1 z.f2) (sameT y z)) :
    ∀ (s : List S24) (s' : List S24) (i : Nat), l.drop i = s → l'.drop i = s' → Ev (fun k => pelicanref05_Same.l0 k (i : Int) a b l a' b' l') (sameLs s s') := by
  intro s
  induction s with
  | nil =>
    intro s' i hs hs'
    have hl := drop_nil hs
    obtain rfl : s' = [] := by rw [← hs', List.drop_of_length_le (by omega)]
    refine Ev.step (f := fun _ => some true) (fun k => ?_) (Ev.const (by rw [sameLs]))
    rw [pelicanref05_Same.l0, if_neg (by omega)]
  | cons y s ihs =>
    intro s' i hs hs'
    obtain ⟨hi, hr, hd, hm⟩ := drop_cons hs
    cases s' with
    | nil => have := drop_nil hs'; omega
    | cons z s' =>
      obtain ⟨hi', hr', hd', hm'⟩ := drop_cons hs'
      have h1 := lsize_mem l y hm
      have h2 := len_lsize l
      rw [sameLs]
      refine Ev.step (f := fun k => (pelicanref05_Same.f k y.f0 y.f1 y.f2 z.f0 z.f1 z.f2).bind fun t => if t = true then pelicanref05_Same.l0 k ((i + 1 : Nat) : Int) a b l a' b' l' else some false) (fun k => ?_) ?_
      · rw [pelicanref05_Same.l0, if_pos (by omega), if_pos (by omega), if_pos (by omega), hr, hr', w64 (x := (i : Int) + 1) (by omega) (by omega)]
        rfl
      · refine Ev.bind (ih y hm (by omega) z) (Ev.ite (fun h => ?_) (fun h => ?_))
        · rw [h, Bool.true_and]; exact ihs s' (i + 1) hd hd'
        · refine Ev.const ?_
          rw [Bool.eq_false_iff.2 h, Bool.false_and]
theorem ref_same_ev : ∀ x : S24, tsize x ≤ 1000000 → ∀ y : S24, Ev (fun k => pelicanref05_Same.f k x.f0 x.f1 x.f2 y.f0 y.f1 y.f2) (sameT x y) := tree_ind fun x ih hx y => by
  have h1 := tsize_eq x
  rw [sameT_eq]
  refine Ev.step (fun k => by rw [pelicanref05_Same.f]) (Ev.ite (fun h0 => Ev.ite (fun h1 => ?_) (fun h1 => ?_)) (fun h0 => ?_))
  · by_cases hl : x.f2.length = y.f2.length
    · refine Ev.step (fun k => by rw [pelicanref05_Same.j0, if_neg (by simp [hl])]) ?_
      rw [show (x.f0 == y.f0) = true by simpa using h0, show (x.f1 == y.f1) = true by simpa using h1]
      exact ref_same_loop x.f0 x.f1 y.f0 y.f1 x.f2 y.f2 (by omega) hl (fun z hz hs u => ih z hz hs u) x.f2 y.f2 0 rfl rfl
    · refine Ev.step (f := fun _ => some false) (fun k => ?_) (Ev.const ?_)
      · rw [pelicanref05_Same.j0, if_pos (by simp; omega)]
      · rw [sameLs_len hl]; simp
  · refine Ev.step (f := fun _ => some false) (fun k => by rw [pelicanref05_Same.j0, if_pos rfl]) (Ev.const ?_)
    rw [show (x.f1 == y.f1) = false by simpa using h1]; simp
  · refine Ev.step (f := fun _ => some false) (fun k => by rw [pelicanref05_Same.j0, if_pos rfl]) (Ev.const ?_)
    rw [show (x.f0 == y.f0) = false by simpa using h0]; simp

/-! #### one of its own -/
theorem own_loop (a b : Int) (l : List S24) (hl : lsize l ≤ 1000000) (ih : ∀ y ∈ l, tsize y ≤ 1000000 → Ev (fun k => term_Own.f k y.f0 y.f1 y.f2) (y.f0, y.f1, y.f2)) :
    ∀ (s : List S24) (i : Nat), l.drop i = s → Ev (fun k => term_Own.l0 k (l.length : Int) (i : Int) a b l) (a, b, l) := by
  intro s
  induction s with
  | nil =>
    intro i hs
    have hl := drop_nil hs
    refine Ev.step (f := fun _ => some (a, b, l)) (fun k => ?_) (Ev.const rfl)
    rw [term_Own.l0, if_neg (by omega)]
  | cons y s ihs =>
    intro i hs
    obtain ⟨hi, hr, hd, hm⟩ := drop_cons hs
    have h1 := lsize_mem l y hm
    have h2 := len_lsize l
    refine Ev.step (f := fun k => (term_Own.f k y.f0 y.f1 y.f2).bind fun bt => term_Own.l0 k (l.length : Int) ((i + 1 : Nat) : Int) a b (l.set i ⟨bt.1, bt.2.1, bt.2.2⟩)) (fun k => ?_) ?_
    · rw [term_Own.l0, if_pos (by omega), if_pos (by omega), if_pos (by omega), hr, w64 (x := (i : Int) + 1) (by omega) (by omega)]
      rfl
    · refine Ev.bind (ih y hm (by omega)) ?_
      have e : l.set i ⟨y.f0, y.f1, y.f2⟩ = l := by
        rw [S24_eta, ← hr, rdT_get l hi, List.set_getElem_self]
      have h3 := ihs (i + 1) hd
      simp only [e]
      exact h3
theorem own_ev : ∀ x : S24, tsize x ≤ 1000000 → Ev (fun k => term_Own.f k x.f0 x.f1 x.f2) (x.f0, x.f1, x.f2) := tree_ind fun x ih hx => by
  have h1 := tsize_eq x
  have h2 := len_lsize x.f2
  refine Ev.step (fun k => by rw [term_Own.f]) ?_
  unfold api_Term_30.f
  rw [if_pos (by omega)]
  exact own_loop x.f0 x.f1 x.f2 (by omega) (fun y hy hs => ih y hy hs) x.f2 0 rfl

end Go.Proofs.Ytfonjmggalkbjaa.P
