/- Plain facts about what can be made of what is known. -/
import Derived.Test.YtfonjmggalkbjaaHLacks
import Derived.Test.YtfonjmggalkbjaaPx2
import Derived.Test.YtfonjmggalkbjaaPx4
import Derived.Test.YtfonjmggalkbjaaPx8
namespace Go.Proofs.Ytfonjmggalkbjaa.P
open Go.RowKit Go.Proofs.YtfonjmggalkbjaaW.PrintWords Go.Proofs.YtfonjmggalkbjaaW.PrintLast
set_option linter.unusedVariables false
set_option linter.unusedSimpArgs false
mutual
/-- A term and what is taken out of it, in order. -/
def reachT (x : S24) : List S24 := match x with
  | ⟨a, b, l⟩ => ⟨a, b, l⟩ :: (if a = 2 then reachL l else [])
def reachL (l : List S24) : List S24 := match l with
  | [] => []
  | x :: l => reachT x ++ reachL l
end
def addAll (out : List S24) (l : List S24) : List S24 := match l with
  | [] => out
  | x :: l => addAll (outN x out) l
mutual
/-- The keys that are lacking, one for each place. -/
def missT (parts : List S24) (x : S24) : List S24 := match x with
  | ⟨a, b, l⟩ => if a = 0 then [] else if inL parts ⟨a, b, l⟩ = true then [] else if a = 1 then [⟨a, b, l⟩] else missL parts l
def missL (parts : List S24) (l : List S24) : List S24 := match l with
  | [] => []
  | x :: l => missT parts x ++ missL parts l
end
theorem reachT_eq (x : S24) : reachT x = x :: (if x.f0 = 2 then reachL x.f2 else []) := by cases x; rw [reachT]
theorem missT_eq (parts : List S24) (x : S24) : missT parts x = if x.f0 = 0 then [] else if inL parts x = true then [] else if x.f0 = 1 then [x] else missL parts x.f2 := by cases x; rw [missT]
theorem inL_iff (l : List S24) (t : S24) : inL l t = true ↔ t ∈ l := by
  unfold inL
  rw [List.any_eq_true]
  constructor
  · rintro ⟨x, hx, h⟩; rw [← (sameT_iff x t).1 h]; exact hx
  · exact fun h => ⟨t, h, sameT_self t⟩
theorem inL_false (l : List S24) (t : S24) : inL l t = false ↔ t ∉ l := by
  rw [← inL_iff]; cases inL l t <;> simp
theorem outN_mem (t x : S24) (out : List S24) : x ∈ outN t out ↔ x ∈ out ∨ x = t := by
  unfold outN
  split
  · rename_i h
    have := (inL_iff out t).1 h
    constructor
    · exact Or.inl
    · rintro (h | rfl)
      · exact h
      · exact this
  · simp
theorem outN_nodup (t : S24) (out : List S24) (h : out.Nodup) : (outN t out).Nodup := by
  unfold outN
  split
  · exact h
  · rename_i hn
    have hn' : t ∉ out := fun hm => hn ((inL_iff out t).2 hm)
    rw [List.nodup_append]
    exact ⟨h, by simp, fun a ha b hb => by rw [List.mem_singleton.1 hb]; intro e; subst e; exact hn' ha⟩
theorem addAll_append : ∀ (a b out : List S24), addAll out (a ++ b) = addAll (addAll out a) b
  | [], b, out => by simp [addAll]
  | x :: a, b, out => by rw [List.cons_append, addAll, addAll, addAll_append a b]
theorem addAll_mem : ∀ (l out : List S24) (x : S24), x ∈ addAll out l ↔ x ∈ out ∨ x ∈ l
  | [], out, x => by simp [addAll]
  | y :: l, out, x => by
    rw [addAll, addAll_mem l, outN_mem, List.mem_cons]
    constructor
    · rintro ((h | h) | h)
      · exact Or.inl h
      · exact Or.inr (Or.inl h)
      · exact Or.inr (Or.inr h)
    · rintro (h | h | h)
      · exact Or.inl (Or.inl h)
      · exact Or.inl (Or.inr h)
      · exact Or.inr h
theorem addAll_nodup : ∀ (l out : List S24), out.Nodup → (addAll out l).Nodup
  | [], out, h => by rw [addAll]; exact h
  | y :: l, out, h => by rw [addAll]; exact addAll_nodup l _ (outN_nodup y out h)
theorem addAll_len : ∀ (l out : List S24), (addAll out l).length ≤ out.length + l.length
  | [], out => by simp [addAll]
  | y :: l, out => by
    have := addAll_len l (outN y out)
    have h2 : (outN y out).length ≤ out.length + 1 := by unfold outN; split <;> simp
    rw [addAll, List.length_cons]; omega
theorem reachL_append : ∀ a b : List S24, reachL (a ++ b) = reachL a ++ reachL b
  | [], b => by simp [reachL]
  | x :: a, b => by rw [List.cons_append, reachL, reachL, reachL_append a b, List.append_assoc]
theorem partsW_reach : ∀ (m : Nat) (todo out : List S24), lsize todo ≤ m → partsW todo out = addAll out (reachL todo) := by
  intro m
  induction m with
  | zero =>
    intro todo out h
    cases todo with
    | nil => rw [partsW_nil, reachL, addAll]
    | cons t rest => have := tsize_pos t; rw [lsize] at h; omega
  | succ m ih =>
    intro todo out h
    cases todo with
    | nil => rw [partsW_nil, reachL, addAll]
    | cons t rest =>
      have h1 := todoN_size t rest
      rw [partsW_cons, ih _ _ (by omega), reachL, reachT_eq, List.cons_append, addAll]
      congr 1
      unfold todoN
      by_cases h2 : t.f0 = 2
      · rw [if_pos h2, if_pos h2, reachL_append]
      · rw [if_neg h2, if_neg h2]; rfl
def partsOf (l : List S24) : List S24 := addAll [] (reachL l)
theorem partsW_eq (l : List S24) : partsW l [] = partsOf l := partsW_reach _ l [] (Nat.le_refl _)
theorem mem_parts (l : List S24) (x : S24) : x ∈ partsOf l ↔ x ∈ reachL l := by
  unfold partsOf
  rw [addAll_mem]
  simp
theorem parts_nodup (l : List S24) : (partsOf l).Nodup := addAll_nodup _ _ (by simp)
theorem mem_reachL : ∀ (l : List S24) (x : S24), x ∈ reachL l ↔ ∃ t ∈ l, x ∈ reachT t
  | [], x => by simp [reachL]
  | y :: l, x => by
    rw [reachL, List.mem_append, mem_reachL l]
    simp
theorem reach_self (x : S24) : x ∈ reachT x := by rw [reachT_eq]; simp
theorem reachL_self {l : List S24} {x : S24} (h : x ∈ l) : x ∈ reachL l := (mem_reachL l x).2 ⟨x, h, reach_self x⟩
theorem reach_pair {t y : S24} (h : t.f0 = 2) (hy : y ∈ t.f2) {x : S24} (hx : x ∈ reachT y) : x ∈ reachT t := by
  rw [reachT_eq, if_pos h]
  exact List.mem_cons_of_mem _ ((mem_reachL _ _).2 ⟨y, hy, hx⟩)
theorem reach_trans : ∀ (z : S24) (y x : S24), y ∈ reachT z → x ∈ reachT y → x ∈ reachT z := tree_ind fun z ih y x hy hx => by
  rw [reachT_eq] at hy
  rcases List.mem_cons.1 hy with rfl | hy
  · exact hx
  · by_cases h2 : z.f0 = 2
    · rw [if_pos h2] at hy
      obtain ⟨t, ht, hy⟩ := (mem_reachL _ _).1 hy
      exact reach_pair h2 ht (ih t ht y x hy hx)
    · rw [if_neg h2] at hy; simp at hy
theorem lookT_miss : ∀ (x : S24) (parts out : List S24), lookT parts x out = addAll out (missT parts x) := tree_ind fun x ih parts out => by
  have hl : ∀ (l : List S24), (∀ y ∈ l, ∀ (parts out : List S24), lookT parts y out = addAll out (missT parts y)) → ∀ out, lookL parts l out = addAll out (missL parts l) := by
    intro l
    induction l with
    | nil => intro _ out; rw [lookL, missL, addAll]
    | cons y l ihl =>
      intro h out
      rw [lookL, missL, addAll_append, h y (by simp), ihl (fun z hz => h z (by simp [hz]))]
  rw [lookT_eq, missT_eq]
  split
  · rw [addAll]
  · split
    · rw [addAll]
    · split
      · rw [addAll, addAll]; rfl
      · exact hl x.f2 ih out
def makesB (l : List S24) (t : S24) : Bool := mayL l && (mayT t && decide (missT (partsOf l) t = []))
theorem addAll_nil_iff (l : List S24) : addAll [] l = [] ↔ l = [] := by
  cases l with
  | nil => simp [addAll]
  | cons x l =>
    constructor
    · intro h
      have : x ∈ addAll [] (x :: l) := (addAll_mem _ _ _).2 (Or.inr (by simp))
      rw [h] at this; simp at this
    · intro h; cases h
theorem parts_f (l : List S24) (h : lsize l ≤ 1000000) : know_Parts.f l = some (if mayL l = true then partsOf l else []) := by
  unfold know_Parts.f; rw [if_pos h, partsW_eq]
theorem lacks_f (l : List S24) (t : S24) (h : lsize l ≤ 1000000) (ht : tsize t ≤ 1000000) : know_Lacks.f l t.f0 t.f1 t.f2 = some (if mayL l = true ∧ mayT t = true then addAll [] (missT (partsOf l) t) else []) := by
  unfold know_Lacks.f
  rw [S24_eta, if_pos ⟨h, ht⟩, partsW_eq, lookT_miss]
theorem makes_f (l : List S24) (t : S24) (h : lsize l ≤ 1000000) (ht : tsize t ≤ 1000000) : know_Makes.f l t.f0 t.f1 t.f2 = some (makesB l t) := by
  unfold know_Makes.f makesB know_May.f
  rw [may_f t ht, lacks_f l t h ht]
  simp only [Option.bind_some]
  by_cases h1 : mayL l = true
  · rw [if_pos h1, h1]
    by_cases h2 : mayT t = true
    · rw [if_pos h2, h2, if_pos ⟨rfl, rfl⟩, Bool.true_and, Bool.true_and]
      congr 1
      rw [Bool.eq_iff_iff, decide_eq_true_eq, beq_iff_eq, ← addAll_nil_iff, ← List.length_eq_zero_iff]
      omega
    · rw [if_neg h2, Bool.eq_false_iff.2 h2]; rfl
  · rw [if_neg h1, Bool.eq_false_iff.2 h1]; rfl
/-! #### may be -/
theorem nmay_eq (z : S24) (h : tsize z ≤ 1000000) : nmay z = !mayT z := by
  have := may_f z h
  unfold term_May.f at this
  rw [S24_eta] at this
  unfold nmay
  rw [Option.some.inj this]
theorem lsize_le (l : List S24) (n : Nat) (h : ∀ x ∈ l, tsize x ≤ n) : lsize l ≤ l.length * n := by
  induction l with
  | nil => simp [lsize]
  | cons x l ih =>
    have h1 := h x (by simp)
    have h2 := ih fun y hy => h y (by simp [hy])
    rw [lsize, List.length_cons, Nat.add_mul]; omega
theorem mayL_iff (l : List S24) (h : ∀ x ∈ l, tsize x ≤ 1000000) : mayL l = true ↔ l.length ≤ 40 ∧ ∀ x ∈ l, mayT x = true := by
  unfold mayL
  rw [Bool.and_eq_true, decide_eq_true_eq, Bool.not_eq_true', List.any_eq_false]
  constructor
  · rintro ⟨h1, h2⟩
    refine ⟨h1, fun x hx => ?_⟩
    have := h2 x hx
    rw [nmay_eq x (h x hx)] at this
    simpa using this
  · rintro ⟨h1, h2⟩
    refine ⟨h1, fun x hx => ?_⟩
    rw [nmay_eq x (h x hx), h2 x hx]
    simp
theorem mayT_iff (x : S24) : mayT x = true ↔ okT x = true ∧ tsize x ≤ 60 ∧ tdep x ≤ 12 := by
  unfold mayT
  simp only [Bool.and_eq_true, decide_eq_true_eq]
theorem okL_mem : ∀ {l : List S24}, okL l = true → ∀ x ∈ l, okT x = true
  | [], _, x, hx => by simp at hx
  | y :: l, h, x, hx => by
    rw [okL, Bool.and_eq_true] at h
    rcases List.mem_cons.1 hx with rfl | hx
    · exact h.1
    · exact okL_mem h.2 x hx
theorem ldep_mem : ∀ (l : List S24) (x : S24), x ∈ l → tdep x ≤ ldep l
  | [], x, hx => by simp at hx
  | y :: l, x, hx => by
    rw [ldep]
    rcases List.mem_cons.1 hx with rfl | hx
    · omega
    · have := ldep_mem l x hx; omega
theorem may_arg {x y : S24} (h : mayT x = true) (hy : y ∈ x.f2) : mayT y = true := by
  rw [mayT_iff] at h ⊢
  obtain ⟨h1, h2, h3⟩ := h
  rw [okT_eq, Bool.and_eq_true] at h1
  have e1 := tsize_eq x
  have e2 := tdep_eq x
  have e3 := lsize_mem x.f2 y hy
  have e4 := ldep_mem x.f2 y hy
  exact ⟨okL_mem h1.2 y hy, by omega, by omega⟩
theorem may_reach : ∀ (x y : S24), mayT x = true → y ∈ reachT x → mayT y = true := tree_ind fun x ih y h hy => by
  rw [reachT_eq] at hy
  rcases List.mem_cons.1 hy with rfl | hy
  · exact h
  · by_cases h2 : x.f0 = 2
    · rw [if_pos h2] at hy
      obtain ⟨t, ht, hy⟩ := (mem_reachL _ _).1 hy
      exact ih t ht y (may_arg h ht) hy
    · rw [if_neg h2] at hy; simp at hy
/-! #### the references -/
def lightB (x : S24) : Bool := decide (tsize x ≤ 150 ∧ tdep x ≤ 20)
theorem lightAll_loop (l : List S24) : ∀ (s : List S24) (i : Nat), l.drop i = s → i ≤ 51 → Ev (fun k => pelicanref05_LightAll.l0 k l (i : Int)) (decide (l.length ≤ 50) && s.all lightB) := by
  intro s
  induction s with
  | nil =>
    intro i hs hi
    have hl := drop_nil hs
    refine Ev.step (f := fun k => pelicanref05_LightAll.j1 k l (i : Int) false) (fun k => by rw [pelicanref05_LightAll.l0, if_neg (by omega)]) (Ev.step (f := fun _ => some (decide ((l.length : Int) ≤ 50))) (fun k => by rw [pelicanref05_LightAll.j1, if_neg (by simp)]) (Ev.const ?_))
    congr 1
    rw [List.all_nil, Bool.and_true, decide_eq_decide]; omega
  | cons y s ihs =>
    intro i hs hi
    obtain ⟨hl, hr, hd, hm⟩ := drop_cons hs
    by_cases h50 : i ≤ 50
    · have e : decide ((i : Int) ≤ 50) = true := decide_eq_true (by omega)
      refine Ev.step (f := fun k => pelicanref05_LightAll.j1 k l (i : Int) true) (fun k => by rw [pelicanref05_LightAll.l0, if_pos (by omega), e]) ?_
      refine Ev.step (f := fun k => (pelicanref05_Light.f k y.f0 y.f1 y.f2).bind fun t => if t = true then pelicanref05_LightAll.l0 k l ((i + 1 : Nat) : Int) else some false) (fun k => ?_) ?_
      · rw [pelicanref05_LightAll.j1, if_pos rfl, if_pos (by omega), if_pos (by omega), hr, cw64 (x := (i : Int) + 1) (by omega) (by omega)]; rfl
      · refine Ev.bind (light_ev y) (Ev.ite (fun h => ?_) (fun h => ?_))
        · rw [List.all_cons, show lightB y = true from h, Bool.true_and]; exact ihs (i + 1) hd (by omega)
        · refine Ev.const ?_
          rw [List.all_cons, show lightB y = false from Bool.eq_false_iff.2 h, Bool.false_and, Bool.and_false]
    · have e : decide ((i : Int) ≤ 50) = false := decide_eq_false (by omega)
      refine Ev.step (f := fun k => pelicanref05_LightAll.j1 k l (i : Int) false) (fun k => by rw [pelicanref05_LightAll.l0, if_pos (by omega), e]) (Ev.step (f := fun _ => some (decide ((l.length : Int) ≤ 50))) (fun k => by rw [pelicanref05_LightAll.j1, if_neg (by simp)]) (Ev.const ?_))
      rw [decide_eq_false (show ¬ l.length ≤ 50 by omega), decide_eq_false (by omega), Bool.false_and]
def lightL (l : List S24) : Bool := decide (l.length ≤ 50) && l.all lightB
theorem lightAll_ev (l : List S24) : Ev (fun k => pelicanref05_LightAll.f k l) (lightL l) := lightAll_loop l l 0 rfl (by omega)
theorem lightL_iff (l : List S24) : lightL l = true ↔ l.length ≤ 50 ∧ ∀ x ∈ l, tsize x ≤ 150 ∧ tdep x ≤ 20 := by
  unfold lightL lightB
  simp [List.all_eq_true]
theorem light_size {l : List S24} (h : lightL l = true) : lsize l ≤ 7500 ∧ ∀ x ∈ l, tsize x ≤ 150 := by
  obtain ⟨h1, h2⟩ := (lightL_iff l).1 h
  have h3 := lsize_le l 150 fun x hx => (h2 x hx).1
  exact ⟨by have := Nat.mul_le_mul_right 150 h1; omega, fun x hx => (h2 x hx).1⟩
theorem in_loop (l : List S24) (t : S24) (hl : l.length ≤ 1000000) (hs : ∀ x ∈ l, tsize x ≤ 1000000) : ∀ (s : List S24) (i : Nat), l.drop i = s → Ev (fun k => pelicanref06_In.l0 k l (i : Int) t.f0 t.f1 t.f2) (inL s t) := by
  intro s
  induction s with
  | nil =>
    intro i hs
    have hl := drop_nil hs
    refine Ev.step (f := fun _ => some false) (fun k => by rw [pelicanref06_In.l0, if_neg (by omega)]) (Ev.const rfl)
  | cons y s ihs =>
    intro i hd'
    obtain ⟨hi, hr, hd, hm⟩ := drop_cons hd'
    refine Ev.step (f := fun k => (pelicanref05_Same.f k y.f0 y.f1 y.f2 t.f0 t.f1 t.f2).bind fun b => if b = true then some true else pelicanref06_In.l0 k l ((i + 1 : Nat) : Int) t.f0 t.f1 t.f2) (fun k => ?_) ?_
    · rw [pelicanref06_In.l0, if_pos (by omega), if_pos (by omega), hr, cw64 (x := (i : Int) + 1) (by omega) (by omega)]; rfl
    · refine Ev.bind (ref_same_ev y (hs y hm) t) (Ev.ite (fun h => ?_) (fun h => ?_))
      · refine Ev.const ?_
        unfold inL; rw [List.any_cons, h]; rfl
      · unfold inL; rw [List.any_cons, Bool.eq_false_iff.2 h, Bool.false_or]
        exact ihs (i + 1) hd
theorem in_ev (l : List S24) (t : S24) (hl : l.length ≤ 1000000) (hs : ∀ x ∈ l, tsize x ≤ 1000000) : Ev (fun k => pelicanref06_In.f k l t.f0 t.f1 t.f2) (inL l t) := in_loop l t hl hs l 0 rfl
/-- What is reached is no greater. -/
theorem reach_size : ∀ (x y : S24), y ∈ reachT x → tsize y ≤ tsize x := tree_ind fun x ih y hy => by
  rw [reachT_eq] at hy
  rcases List.mem_cons.1 hy with rfl | hy
  · exact Nat.le_refl _
  · by_cases h2 : x.f0 = 2
    · rw [if_pos h2] at hy
      obtain ⟨t, ht, hy⟩ := (mem_reachL _ _).1 hy
      have h1 := ih t ht y hy
      have h3 := lsize_mem x.f2 t ht
      have h4 := tsize_eq x
      omega
    · rw [if_neg h2] at hy; simp at hy
theorem reach_len : ∀ (x : S24), (reachT x).length ≤ tsize x := tree_ind fun x ih => by
  have hl : ∀ l : List S24, (∀ y ∈ l, (reachT y).length ≤ tsize y) → (reachL l).length ≤ lsize l := by
    intro l
    induction l with
    | nil => intro _; simp [reachL]
    | cons y l ihl =>
      intro h
      have h1 := h y (by simp)
      have h2 := ihl fun z hz => h z (by simp [hz])
      rw [reachL, lsize, List.length_append]; omega
  have h1 := hl x.f2 ih
  have h2 := tsize_eq x
  rw [reachT_eq]
  split
  · rw [List.length_cons]; omega
  · simp; omega
theorem reachL_len (l : List S24) : (reachL l).length ≤ lsize l := by
  induction l with
  | nil => simp [reachL]
  | cons y l ih => have := reach_len y; rw [reachL, lsize, List.length_append]; omega
theorem parts_len (l : List S24) : (partsOf l).length ≤ lsize l := by
  have h1 := addAll_len (reachL l) []
  have h2 := reachL_len l
  unfold partsOf
  simp at h1; omega
theorem parts_size {l : List S24} {n : Nat} (h : ∀ x ∈ l, tsize x ≤ n) : ∀ x ∈ partsOf l, tsize x ≤ n := by
  intro x hx
  obtain ⟨t, ht, hx⟩ := (mem_reachL _ _).1 ((mem_parts l x).1 hx)
  exact Nat.le_trans (reach_size t x hx) (h t ht)
end Go.Proofs.Ytfonjmggalkbjaa.P
