/- What LawSymProof rests on, part 22: several texts put together. -/
import Derived.Test.YtdinphnljokigaaQ10
import Derived.Test.YtdinphnljokigaaQ11
import Derived.Test.YtdinphnljokigaaQ3
import Derived.Test.YtdinphnljokigaaQ21
import Derived.Test.YtdinphnljokigaaQ2
set_option linter.unusedVariables false
set_option linter.unnecessarySimpa false
set_option linter.unusedSimpArgs false
set_option maxRecDepth 100000
section
namespace Go.Proofs.Ytdinphnljokigaa.P
open Go.RowKit Go.Proofs.YtdinphnljokigaaW.PrintWords Go.Proofs.YtdinphnljokigaaW.PrintLast
mutual
def tdep : S24 → Nat
 | ⟨_, _, l⟩ => ldep l + 1
def ldep : List S24 → Nat
 | [] => 0
 | x :: l => max (tdep x) (ldep l)
end
mutual
def okT : S24 → Bool
 | ⟨a, b, l⟩ => nodeB a b l.length && okL l
def okL : List S24 → Bool
 | [] => true
 | x :: l => okT x && okL l
end
theorem tdep_eq (x : S24) : tdep x = ldep x.f2 + 1 := by cases x; rw [tdep]
theorem okT_eq (x : S24) : okT x = (nodeB x.f0 x.f1 x.f2.length && okL x.f2) := by cases x; rw [okT]
theorem S24_eta (x : S24) : (⟨x.f0, x.f1, x.f2⟩ : S24) = x := by cases x; rfl
theorem tree_ind {P : S24 → Prop} (h : ∀ x, (∀ y ∈ x.f2, P y) → P x) : ∀ x, P x := by
 have key : ∀ m x, tsize x ≤ m → P x := by
  intro m
  induction m with
  | zero => intro x hx; have := tsize_eq x; omega
  | succ m ih =>
   intro x hx
   refine h x fun y hy => ih y ?_
   have h1 := tsize_eq x
   have h2 := lsize_mem x.f2 y hy
   omega
 exact fun x => key _ x (Nat.le_refl _)
theorem len_lsize : ∀ l : List S24, l.length ≤ lsize l
 | [] => by simp
 | x :: l => by have h1 := len_lsize l; have h2 := tsize_eq x; rw [lsize, List.length_cons]; omega
theorem drop_cons {l s : List S24} {y : S24} {i : Nat} (h : l.drop i = y :: s) : i < l.length ∧ rd_T24 l (i : Int) = y ∧ l.drop (i + 1) = s ∧ y ∈ l := by
 have hi : i < l.length := by
  rcases Nat.lt_or_ge i l.length with h1 | h1
  ·exact h1
  ·rw [List.drop_of_length_le h1] at h; cases h
 have h2 := List.drop_eq_getElem_cons hi
 rw [h] at h2
 injection h2 with h3 h4
 exact ⟨hi, by rw [rdT_get l hi]; exact h3.symm, h4.symm, by rw [h3]; exact List.getElem_mem hi⟩
theorem drop_nil {l : List S24} {i : Nat} (h : l.drop i = []) : l.length ≤ i := by
 rcases Nat.lt_or_ge i l.length with h1 | h1
 ·rw [List.drop_eq_getElem_cons h1] at h; cases h
 ·exact h1
theorem tdep_pos (x : S24) : 1 ≤ tdep x := by rw [tdep_eq]; omega
/-! #### size, depth -/
theorem foldL_size (l : List S24) (ih : ∀ y ∈ l, ∀ (s d : Int), 0 ≤ s → s + tsize y ≤ 1000000000 → foldT step_Size s y d = s + tsize y) : ∀ (s d : Int), 0 ≤ s → s + lsize l ≤ 1000000000 → foldL step_Size s l d = s + lsize l := by
 induction l with
 | nil => intro s d h0 h1; simp [foldL, lsize]
 | cons y l ihl =>
  intro s d h0 h1
  rw [lsize] at h1 ⊢
  rw [foldL, ih y (by simp) s d h0 (by omega), ihl (fun z hz => ih z (by simp [hz])) _ d (by omega) (by omega)]
  omega
theorem fold_size : ∀ (x : S24) (s d : Int), 0 ≤ s → s + tsize x ≤ 1000000000 → foldT step_Size s x d = s + tsize x := tree_ind fun x ih s d h0 h1 => by
 have hx := tsize_eq x
 rw [foldT_eq, foldL_size x.f2 ih _ _ (by unfold step_Size; rw [w64 (by omega) (by omega)]; omega) (by unfold step_Size; rw [w64 (by omega) (by omega)]; omega)]
 unfold step_Size
 rw [w64 (by omega) (by omega)]
 omega
theorem foldL_may (l : List S24) (ih : ∀ y ∈ l, ∀ (s : Bool) (d : Int), 1 ≤ d → d + tsize y ≤ 1000000000 → foldT step_May s y d = (s && okT y && decide (d + tdep y - 1 ≤ 12))) : ∀ (s : Bool) (d : Int), 1 ≤ d → d + lsize l ≤ 1000000000 → foldL step_May s l d = (s && okL l && (decide (l = []) || decide (d + ldep l - 1 ≤ 12))) := by
 induction l with
 | nil => intro s d h0 h1; simp [foldL, okL]
 | cons y l ihl =>
  intro s d h0 h1
  have hd := tdep_pos y
  rw [lsize] at h1
  rw [foldL, ih y (by simp) s d h0 (by omega), ihl (fun z hz => ih z (by simp [hz])) _ d (by omega) (by omega), ldep, okL]
  by_cases e : l = []
  ·subst e
   rw [okL, ldep, Bool.eq_iff_iff]
   simp only [Bool.and_eq_true, Bool.or_eq_true, decide_eq_true_eq]
   constructor
   ·rintro ⟨⟨⟨⟨h1, h2⟩, h3⟩, h4⟩, h5⟩
    exact ⟨⟨h1, h2, h4⟩, Or.inr (by omega)⟩
   ·rintro ⟨⟨h1, h2, h3⟩, h4⟩
    rcases h4 with h4 | h4
    ·cases h4
    ·exact ⟨⟨⟨⟨h1, h2⟩, by omega⟩, h3⟩, Or.inl trivial⟩
  ·rw [Bool.eq_iff_iff]
   simp only [Bool.and_eq_true, Bool.or_eq_true, decide_eq_true_eq]
   constructor
   ·rintro ⟨⟨⟨⟨h1, h2⟩, h3⟩, h4⟩, h5⟩
    rcases h5 with h5 | h5
    ·exact absurd h5 e
    ·exact ⟨⟨h1, h2, h4⟩, Or.inr (by omega)⟩
   ·rintro ⟨⟨h1, h2, h3⟩, h4⟩
    rcases h4 with h4 | h4
    ·cases h4
    ·exact ⟨⟨⟨⟨h1, h2⟩, by omega⟩, h3⟩, Or.inr (by omega)⟩
theorem fold_may : ∀ (x : S24) (s : Bool) (d : Int), 1 ≤ d → d + tsize x ≤ 1000000000 → foldT step_May s x d = (s && okT x && decide (d + tdep x - 1 ≤ 12)) := tree_ind fun x ih s d h0 h1 => by
 have hx := tsize_eq x
 rw [foldT_eq, w64 (x := d + 1) (by omega) (by omega), foldL_may x.f2 ih _ _ (by omega) (by omega), tdep_eq, okT_eq]
 unfold step_May
 rw [Bool.eq_iff_iff]
 simp only [Bool.and_eq_true, Bool.or_eq_true, decide_eq_true_eq]
 by_cases e : x.f2 = []
 ·rw [e, ldep]
  constructor
  ·rintro ⟨⟨⟨⟨h1, h2⟩, h3⟩, h4⟩, h5⟩
   exact ⟨⟨h1, h2, h4⟩, by omega⟩
  ·rintro ⟨⟨h1, h2, h4⟩, h3⟩
   exact ⟨⟨⟨⟨h1, h2⟩, by omega⟩, h4⟩, Or.inl rfl⟩
 ·constructor
  ·rintro ⟨⟨⟨⟨h1, h2⟩, h3⟩, h4⟩, h5⟩
   rcases h5 with h5 | h5
   ·exact absurd h5 e
   ·exact ⟨⟨h1, h2, h4⟩, by omega⟩
  ·rintro ⟨⟨h1, h2, h4⟩, h3⟩
   exact ⟨⟨⟨⟨h1, h2⟩, by omega⟩, h4⟩, Or.inr (by omega)⟩
def mayT (x : S24) : Bool := okT x && (decide (tsize x ≤ 60) && decide (tdep x ≤ 12))
theorem size_f (x : S24) (h : tsize x ≤ 1000000) : term_Size.f x.f0 x.f1 x.f2 = some (tsize x : Int) := by
 unfold term_Size.f
 rw [S24_eta, fold_size x 0 1 (by omega) (by omega)]
 congr 1; omega
theorem may_f (x : S24) (h : tsize x ≤ 1000000) : term_May.f x.f0 x.f1 x.f2 = some (mayT x) := by
 unfold term_May.f tmayB mayT
 rw [S24_eta, fold_size x 0 1 (by omega) (by omega), fold_may x true 1 (by omega) (by omega)]
 congr 1
 rw [Bool.eq_iff_iff]
 simp only [Bool.and_eq_true, Bool.true_and, decide_eq_true_eq]
 constructor
 ·rintro ⟨⟨h1, h2⟩, h3⟩
  exact ⟨h1, by omega, by omega⟩
 ·rintro ⟨h1, h2, h3⟩
  exact ⟨⟨h1, by omega⟩, by omega⟩
/-! #### may be -/
/-! #### the same -/
theorem sameLs_iff (l : List S24) (ih : ∀ x ∈ l, ∀ y, sameT x y = true ↔ x = y) : ∀ k, sameLs l k = true ↔ l = k := by
 induction l with
 | nil => intro k; cases k <;> simp [sameLs]
 | cons x l ihl =>
  intro k
  cases k with
  | nil => simp [sameLs]
  | cons y k =>
   rw [sameLs, Bool.and_eq_true, ih x (by simp) y, ihl (fun z hz => ih z (by simp [hz])) k]
   simp
theorem sameT_iff : ∀ x y : S24, sameT x y = true ↔ x = y := tree_ind fun x ih y => by
 rw [sameT_eq, Bool.and_eq_true, Bool.and_eq_true, beq_iff_eq, beq_iff_eq, sameLs_iff x.f2 ih y.f2]
 cases x; cases y; simp
theorem same_f (x y : S24) : term_Same.f x.f0 x.f1 x.f2 y.f0 y.f1 y.f2 = some (sameT x y) := by
 unfold term_Same.f
 rw [S24_eta, S24_eta]
/-! #### one of its own -/
theorem own_loop (a b : Int) (l : List S24) (hl : lsize l ≤ 1000000) (ih : ∀ y ∈ l, tsize y ≤ 1000000 → Ev (fun k => term_Own.f k y.f0 y.f1 y.f2) (y.f0, y.f1, y.f2)) :
  ∀ (s : List S24) (i : Nat), l.drop i = s → Ev (fun k => term_Own.l0 k (l.length : Int) (i : Int) a b l) (a, b, l) := by
 intro s
 induction s with
 | nil =>
  intro i hs
  have hl := drop_nil hs
  refine Ev.step (f := fun _ => some (a, b, l)) (fun k => ?_) (Ev.const rfl)
  rw [term_Own.l0, if_neg (by omega)]
 | cons y s ihs =>
  intro i hs
  obtain ⟨hi, hr, hd, hm⟩ := drop_cons hs
  have h1 := lsize_mem l y hm
  have h2 := len_lsize l
  refine Ev.step (f := fun k => (term_Own.f k y.f0 y.f1 y.f2).bind fun bt => term_Own.l0 k (l.length : Int) ((i + 1 : Nat) : Int) a b (l.set i ⟨bt.1, bt.2.1, bt.2.2⟩)) (fun k => ?_) ?_
  ·rw [term_Own.l0, if_pos (by omega), if_pos (by omega), if_pos (by omega), hr, w64 (x := (i : Int) + 1) (by omega) (by omega)]
   rfl
  ·refine Ev.bind (ih y hm (by omega)) ?_
   have e : l.set i ⟨y.f0, y.f1, y.f2⟩ = l := by
    rw [S24_eta, ← hr, rdT_get l hi, List.set_getElem_self]
   have h3 := ihs (i + 1) hd
   simp only [e]
   exact h3
theorem own_ev : ∀ x : S24, tsize x ≤ 1000000 → Ev (fun k => term_Own.f k x.f0 x.f1 x.f2) (x.f0, x.f1, x.f2) := tree_ind fun x ih hx => by
 have h1 := tsize_eq x
 have h2 := len_lsize x.f2
 refine Ev.step (fun k => by rw [term_Own.f]) ?_
 unfold api_Term_30.f
 rw [if_pos (by omega)]
 exact own_loop x.f0 x.f1 x.f2 (by omega) (fun y hy hs => ih y hy hs) x.f2 0 rfl
end Go.Proofs.Ytdinphnljokigaa.P
end

section
namespace Go.Proofs.Ytdinphnljokigaa.P
open Go.RowKit Go.Lib Go.Proofs.YtdinphnljokigaaW.PrintWords Go.Proofs.YtdinphnljokigaaW.PrintLast Go.Proofs.YtdinphnljokigaaW.PrintMore
theorem byte_no (ad : Addr) (n c : Nat) (w : World) : Sem.run Try.prog (binOp .eql 40 (.slice (some ad) n c) (.slice none 0 0)) w = .ok (.bool false) w := by
 kernel_rfl
theorem byte_yes (n c : Nat) (w : World) : Sem.run Try.prog (binOp .eql 40 (.slice none n c) (.slice none 0 0)) w = .ok (.bool true) w := by
 kernel_rfl
theorem byte_lit0 (W : World) : (Kd.int .u8).R 5 (W.alloc (.cells #[] 5)) W.heap.size (fun _ => True) (.slice (some ⟨W.heap.size, 0, none⟩) 0 0) ([] : List Int) :=
 ⟨fun k hk => trivial, [], ⟨by simp, .inr ⟨W.heap.size, 0, #[], rfl, Nat.le_refl _, blk_new W _, Nat.le_refl _, Nat.zero_le _, rfl, rfl⟩⟩, ⟨rfl, fun j p h => by simp at h⟩⟩
set_option maxHeartbeats 400000 in
theorem byte_clone (l : List Int) (A : Option Addr) (c : Nat) (w : World) (hr : (Kd.int .u8).C w A l.length l) (hl : l.length < 1000000) :
  Calls Try.prog 46 #[.slice A l.length c] w fun e w' => ∃ v : Value, e = .returned v ∧ (Kd.int .u8).R 5 w' w.heap.size (fun _ => True) v l ∧ Below w.heap.size w w' := by
 have HR := aq_ hr
 have HL := aq_ hl
 have HB := aq_ (Below.refl w.heap.size w)
 cases A with
 | none =>
  have hnil : l = [] := by
   rcases l with _ | ⟨x, l⟩
   ·rfl
   ·obtain ⟨ad, e, _⟩ := hr.2.2 (by simp)
    simp at e
  subst hnil
  have e1 := byte_yes 0 c
  clear hr hl
  go_enter Try.func46, Try.ntmps46
  go_wp2
  go_ret
  exact ⟨_, rfl, Kd.R_nil _ _ _ _ _, HB.out⟩
 | some ad =>
  have e1 := byte_no ad l.length c
  clear hr hl
  go_enter Try.func46, Try.ntmps46
  go_wp2_with (first | ((with_reducible refine gate_builtin (b := .append) (xs := #[.tmp 5, .tmp 6]) rfl ?_); (try (refine gate_guard (by rfl) ?_; dsimp only)); at_builtin; refine Kd.R_append_rows (Kd.int .u8) (w0 := w) w.heap.size rfl (.tmp 5) (.tmp 6) 40 5 (.int .u8 0) 1 rfl Try.underlying40 info5 rfl (by decide) (by omega) (.slice (some ⟨w.heap.size, 0, none⟩) 0 0) ([] : List Int) l _ _ _ (fun _ => True) (fun _ => False) rfl rfl ?aO ?aR (fun _ _ h => h) (fun _ h => h.elim) ?aF ?aB ?aS ?aL ?_; (case aR => exact Kd.C_alloc HR.out _); (case aB => exact below_alloc HB.out _); (case aF => exact fun _ _ => trivial); (case aO => exact byte_lit0 w); (case aS => exact below_size (below_alloc HB.out _)); (case aL => have := HL.out; simpa using (by omega : l.length * 1 ≤ 140737488355328)); intro v1 w1 ho hb hg hat; have HO1 := aq_ ho; have HB1 := aq_ hb; clear ho hb hg hat))
  go_ret
  exact ⟨_, rfl, HO1.out, HB1.out⟩
theorem done_no (ad : Addr) (n c : Nat) (w : World) : Sem.run Try.prog (binOp .eql 46 (.slice (some ad) n c) (.slice none 0 0)) w = .ok (.bool false) w := by
 kernel_rfl
theorem done_yes (n c : Nat) (w : World) : Sem.run Try.prog (binOp .eql 46 (.slice none n c) (.slice none 0 0)) w = .ok (.bool true) w := by
 kernel_rfl
theorem done_lit0 (W : World) : kD.R 56 (W.alloc (.cells #[] 56)) W.heap.size (fun _ => True) (.slice (some ⟨W.heap.size, 0, none⟩) 0 0) ([] : List Don) :=
 ⟨fun k hk => trivial, [], ⟨by simp, .inr ⟨W.heap.size, 0, #[], rfl, Nat.le_refl _, blk_new W _, Nat.le_refl _, Nat.zero_le _, rfl, rfl⟩⟩, ⟨rfl, fun j p h => by simp at h⟩⟩
set_option maxHeartbeats 400000 in
theorem done_clone (l : List Don) (A : Option Addr) (c : Nat) (w : World) (hr : kD.C w A l.length l) (hl : l.length < 1000000) :
  Calls Try.prog 45 #[.slice A l.length c] w fun e w' => ∃ v : Value, e = .returned v ∧ kD.R 56 w' w.heap.size (fun _ => True) v l ∧ Below w.heap.size w w' := by
 have HR := aq_ hr
 have HL := aq_ hl
 have HB := aq_ (Below.refl w.heap.size w)
 cases A with
 | none =>
  have hnil : l = [] := by
   rcases l with _ | ⟨x, l⟩
   ·rfl
   ·obtain ⟨ad, e, _⟩ := hr.2.2 (by simp)
    simp at e
  subst hnil
  have e1 := done_yes 0 c
  clear hr hl
  go_enter Try.func45, Try.ntmps45
  go_wp2
  go_ret
  exact ⟨_, rfl, Kd.R_nil _ _ _ _ _, HB.out⟩
 | some ad =>
  have e1 := done_no ad l.length c
  clear hr hl
  go_enter Try.func45, Try.ntmps45
  go_wp2_with (first | ((with_reducible refine gate_builtin (b := .append) (xs := #[.tmp 5, .tmp 6]) rfl ?_); (try (refine gate_guard (by rfl) ?_; dsimp only)); at_builtin; refine Kd.R_append_rows kD (w0 := w) w.heap.size rfl (.tmp 5) (.tmp 6) 46 56 (.agg #[.int .i64 0, .int .i64 0, .int .u64 0, .int .u64 0, .int .u64 0, .int .i64 0, .int .i64 0]) 56 rfl Try.underlying46 infoD rfl (by decide) (by omega) (.slice (some ⟨w.heap.size, 0, none⟩) 0 0) ([] : List Don) l _ _ _ (fun _ => True) (fun _ => False) rfl rfl ?aO ?aR (fun _ _ h => h) (fun _ h => h.elim) ?aF ?aB ?aS ?aL ?_; (case aR => exact Kd.C_alloc HR.out _); (case aB => exact below_alloc HB.out _); (case aF => exact fun _ _ => trivial); (case aO => exact done_lit0 w); (case aS => exact below_size (below_alloc HB.out _)); (case aL => have := HL.out; simpa using (by omega : l.length * 56 ≤ 140737488355328)); intro v1 w1 ho hb hg hat; have HO1 := aq_ ho; have HB1 := aq_ hb; clear ho hb hg hat))
  go_ret
  exact ⟨_, rfl, HO1.out, HB1.out⟩
theorem kU_heap : Kd.Heap kU := Kd.heap_iso _ (Kd.heap_pair (Kd.heap_int .i64) (Kd.heap_pair (Kd.heap_int .i64) (Kd.heap_slice 5 (Kd.heap_int .u8))))
theorem usr_no (ad : Addr) (n c : Nat) (w : World) : Sem.run Try.prog (binOp .eql 44 (.slice (some ad) n c) (.slice none 0 0)) w = .ok (.bool false) w := by
 kernel_rfl
theorem usr_yes (n c : Nat) (w : World) : Sem.run Try.prog (binOp .eql 44 (.slice none n c) (.slice none 0 0)) w = .ok (.bool true) w := by
 kernel_rfl
theorem usr_lit0 (W : World) (base : Nat) (ok : Nat → Prop) (hb : base ≤ W.heap.size) (hok : ∀ k, W.heap.size ≤ k → ok k) : Kd.N kU 43 (W.alloc (.cells #[] 43)) base ok (.slice (some ⟨W.heap.size, 0, none⟩) 0 0) ([] : List Usr) :=
 ⟨fun k hk => hok k (by simp [Value.ownBlock] at hk; omega), [], rfl, ⟨fun k hk => hk.symm, [], ⟨by simp, .inr ⟨W.heap.size, 0, #[], rfl, hb, blk_new W _, Nat.le_refl _, Nat.zero_le _, rfl, rfl⟩⟩, ⟨rfl, fun j p h => by simp at h⟩⟩, fun j x c h => by simp at h⟩
set_option maxHeartbeats 400000 in
theorem usr_clone (P : Nat → Prop) (A0 : Option Addr) (c0 : Nat) (l0 : List Usr) (w : World) (hs0 : Kd.V kU 43 w w.heap.size P (.slice A0 l0.length c0) l0) (hl : l0.length < 1000000) :
  Calls Try.prog 42 #[.slice A0 l0.length c0] w fun e w' => ∃ v0_ : Value, e = .returned v0_ ∧ Kd.N kU 43 w' w.heap.size (fun k_ => (P k_ ∨ w.heap.size ≤ k_)) v0_ l0 ∧ Below w.heap.size w w' := by
 have HL := aq_ hl
 have HB := aq_ (Below.refl w.heap.size w)
 obtain ⟨_, _, hF⟩ := Kd.V_at hs0
 have HF := aq_ (Kd.F_alloc (Kd.F_bound hF) (.cells #[] 43))
 cases A0 with
 | none =>
  have hnil : l0 = [] := by
   rcases l0 with _ | ⟨x, l⟩
   ·rfl
   ·obtain ⟨ad, e, _⟩ := (Kd.F_now hF).2.2 (by simp)
    simp at e
  subst hnil
  have e1 := usr_yes 0 c0
  clear hs0 hl hF HF
  go_enter Try.func42, Try.ntmps42
  go_wp2
  go_ret
  exact ⟨_, rfl, Kd.N_nil _ _ _ _ _, HB.out⟩
 | some ad =>
  have e1 := usr_no ad l0.length c0
  clear hs0 hl hF
  go_enter Try.func42, Try.ntmps42
  go_wp2_with (first | ((with_reducible refine gate_builtin (b := .append) (xs := #[.tmp 5, .tmp 6]) rfl ?_); (try (refine gate_guard (by rfl) ?_; dsimp only)); at_builtin; refine Kd.N_append_rows kU (w0 := w) w.heap.size rfl (.tmp 5) (.tmp 6) 44 43 (.agg #[.int .i64 0, .int .i64 0, .slice none 0 0]) 40 rfl Try.underlying44 infoU rfl (by decide) (by omega) (.slice (some ⟨w.heap.size, 0, none⟩) 0 0) ([] : List Usr) l0 (some ad) l0.length c0 (fun k_ => P k_ ∨ w.heap.size ≤ k_) (fun k_ => P k_ ∧ k_ < w.heap.size) rfl rfl ?aO ?aR ?aP ?aF ?aB ?aS ?aL ?_; (case aR => exact HF.out); (case aP => exact fun k hk => ⟨.inl hk.1, by have := hk.2; simp [Value.ownBlock]; omega⟩); (case aB => exact below_alloc HB.out _); (case aF => exact fun k hk => .inr (by simp at hk; omega)); (case aO => exact usr_lit0 w w.heap.size _ (Nat.le_refl _) (fun k hk => .inr hk)); (case aS => exact below_size (below_alloc HB.out _)); (case aL => have := HL.out; simpa using (by omega : l0.length * 40 ≤ 140737488355328)); intro v1 w1 ho hb hg hat; have HO1 := aq_ ho; have HB1 := aq_ hb; clear ho hb hg hat))
  go_ret
  exact ⟨_, rfl, by have := HO1.out; simpa using this, HB1.out⟩
theorem own_any (x : S24) (hx : tsize x ≤ 1000000) (P : Nat → Prop) (A : Option Addr) (c : Nat) (w : World) (hs : Kd.V k24 32 w w.heap.size P (.slice A x.f2.length c) x.f2) :
  Calls Try.prog 47 #[.agg #[.int .i64 x.f0, .int .i64 x.f1, .slice A x.f2.length c]] w fun e w' => ∃ v, e = .returned (.agg #[.int .i64 x.f0, .int .i64 x.f1, v]) ∧ Kd.N k24 32 w' w.heap.size (fun k => P k ∨ w.heap.size ≤ k) v x.f2 ∧ Below w.heap.size w w' := by
 obtain ⟨k, hk⟩ := (own_ev x hx).rounds
 exact term_Own.calls k x.f0 x.f1 P A c x.f2 x.f0 x.f1 x.f2 w hs hk
structure Mdl where
 U : List Usr
 idle : Int
 T : List Ses
 epoch : Int
 now : Int
 K : List S24
 D : List Don
/-- A row that can be read. -/
def Told {α : Type} (d : Kd α) (w : World) (v : Value) (l : List α) : Prop := ∃ (A : Option Addr) (c : Nat), v = .slice A l.length c ∧ l.length ≤ c ∧ d.C w A l.length l
theorem told_V {α : Type} {d : Kd α} {w : World} {e B : Nat} {P : Nat → Prop} {v : Value} {l : List α} (h : Kd.V d e w B P v l) : Told d w v l := by
 obtain ⟨A, c, rfl, hc, hF⟩ := h
 exact ⟨A, c, rfl, hc, Kd.F_now hF⟩
theorem told_of {α : Type} {d : Kd α} (hd : Kd.Heap d) {w : World} (e B : Nat) {v : Value} {l : List α} (h : Told d w v l) : Kd.V d e w B (fun k => k < w.heap.size) v l := by
 obtain ⟨A, c, rfl, hc, hC⟩ := h
 exact ⟨A, c, rfl, hc, Kd.C_F hd hC⟩
theorem told_belowG {α : Type} {d : Kd α} {w w' : World} {v : Value} {l : List α} (h : Told d w v l) (hb : Below w.heap.size w w') : Told d w' v l := by
 obtain ⟨A, c, rfl, hc, hC⟩ := h
 exact ⟨A, c, rfl, hc, Kd.C_below hC hb⟩
theorem kS_heap : Kd.Heap kS := ⟨fun _ h => h⟩
theorem kD_heap : Kd.Heap kD := ⟨fun _ h => h⟩
/-- A model that can be read. -/
def MdC (w : World) (M : Mdl) (vU vT vK vD : Value) : Prop := Told kU w vU M.U ∧ Told kS w vT M.T ∧ Told k24 w vK M.K ∧ Told kD w vD M.D
def mca (M : Mdl) (vU vT vK vD : Value) : Array Value := #[vU, .int .i64 M.idle, vT, .int .i64 M.epoch, .int .i64 M.now, vK, vD]
/-- A model is small. -/
def smallM (M : Mdl) : Prop := (M.U.length < 1000000 ∧ M.T.length < 1000000 ∧ M.K.length < 1000000 ∧ M.D.length < 1000000) ∧ (∀ u ∈ M.U, u.key.length < 1000000) ∧ ∀ t ∈ M.K, tsize t ≤ 1000000
/-- A model of the call's own: what is known, and what was done, can be appended to. -/
def OwnM (w : World) (base : Nat) (r : Nat → Prop) (M : Mdl) (vU vT vK vD : Value) : Prop := ∃ PU PT PK PD : Nat → Prop, Kd.V kU 43 w 0 PU vU M.U ∧ Kd.V kS 26 w 0 PT vT M.T ∧ Kd.N k24 32 w base PK vK M.K ∧ Kd.R kD 56 w base PD vD M.D ∧
 (∀ k, vK.ownBlock = some k → ¬ PU k ∧ ¬ PT k ∧ ¬ PD k) ∧ (∀ k, vD.ownBlock = some k → ¬ PU k ∧ ¬ PT k ∧ ¬ PK k) ∧ (∀ k, r k → k < base ∧ ¬ PU k ∧ ¬ PT k ∧ ¬ PK k ∧ ¬ PD k)
/-- A model that can be read, none of whose rows lies in a block. -/
def MdO (w : World) (r : Nat → Prop) (M : Mdl) (vU vT vK vD : Value) : Prop := Kd.V kU 43 w 0 (fun k => ¬ r k) vU M.U ∧ Kd.V kS 26 w 0 (fun k => ¬ r k) vT M.T ∧ Kd.V k24 32 w 0 (fun k => ¬ r k) vK M.K ∧ Kd.V kD 56 w 0 (fun k => ¬ r k) vD M.D
theorem mdO_below {w w' : World} {r : Nat → Prop} {M : Mdl} {vU vT vK vD : Value} (h : MdO w r M vU vT vK vD) (hb : Below w.heap.size w w') : MdO w' r M vU vT vK vD := ⟨Kd.V_below h.1 hb, Kd.V_below h.2.1 hb, Kd.V_below h.2.2.1 hb, Kd.V_below h.2.2.2 hb⟩
theorem mdO_told {w : World} {r : Nat → Prop} {M : Mdl} {vU vT vK vD : Value} (h : MdO w r M vU vT vK vD) : MdC w M vU vT vK vD := ⟨told_V h.1, told_V h.2.1, told_V h.2.2.1, told_V h.2.2.2⟩
theorem mdO_of {w w' : World} {r : Nat → Prop} {M : Mdl} {vU vT vK vD : Value} (h : MdC w M vU vT vK vD) (hb : Below w.heap.size w w') (hr : ∀ k, r k → w.heap.size ≤ k) : MdO w' r M vU vT vK vD := ⟨Kd.V_mono (Kd.V_below (told_of kU_heap _ 0 h.1) hb) fun k hk h => by have := hr k h; omega, Kd.V_mono (Kd.V_below (told_of kS_heap _ 0 h.2.1) hb) fun k hk h => by have := hr k h; omega, Kd.V_mono (Kd.V_below (told_of k24_heap _ 0 h.2.2.1) hb) fun k hk h => by have := hr k h; omega, Kd.V_mono (Kd.V_below (told_of kD_heap _ 0 h.2.2.2) hb) fun k hk h => by have := hr k h; omega⟩
theorem ownM_told {w : World} {base : Nat} {r : Nat → Prop} {M : Mdl} {vU vT vK vD : Value} (h : OwnM w base r M vU vT vK vD) : MdC w M vU vT vK vD := by
 obtain ⟨PU, PT, PK, PD, h1, h2, h3, h4, _⟩ := h
 exact ⟨told_V h1, told_V h2, told_V (Kd.N_V (base' := 0) h3), by obtain ⟨A, c, e, hc, hC⟩ := Kd.R_reads h4; exact ⟨A, c, e, hc, hC⟩⟩
theorem kU_mkF (W : World) (ok : Nat → Prop) (x : Usr) {A2 : Option Addr} {c2 : Nat} (l2 : x.key.length ≤ c2) (g2 : Kd.F (Kd.int .u8) W ok A2 x.key.length x.key) : Kd.FK kU W ok x [.int .i64 x.no, .int .i64 x.role, .slice A2 x.key.length c2] := fun W2 hW => kU_mk W2 x l2 (g2 W2 hW)
theorem V_base {α : Type} {d : Kd α} {e b b' : Nat} {W : World} {ok : Nat → Prop} {v : Value} {l : List α} (h : Kd.V d e W b ok v l) : Kd.V d e W b' ok v l := h
theorem cells7 {w : World} {g : Nat} {t : TypeId} {a0 a1 a2 a3 a4 a5 a6 : Value} (h : w.heap[g]? = some (.cells #[a0, a1, a2, a3, a4, a5, a6] t (0, 0))) : (w.cell? ⟨g, 0, none⟩ = some a0 ∧ w.cell? ⟨g, 1, none⟩ = some a1 ∧ w.cell? ⟨g, 2, none⟩ = some a2 ∧ w.cell? ⟨g, 3, none⟩ = some a3 ∧ w.cell? ⟨g, 4, none⟩ = some a4 ∧ w.cell? ⟨g, 5, none⟩ = some a5 ∧ w.cell? ⟨g, 6, none⟩ = some a6) ∧ (w.frozen? ⟨g, 0, none⟩ = false ∧ w.frozen? ⟨g, 1, none⟩ = false ∧ w.frozen? ⟨g, 2, none⟩ = false ∧ w.frozen? ⟨g, 3, none⟩ = false ∧ w.frozen? ⟨g, 4, none⟩ = false ∧ w.frozen? ⟨g, 5, none⟩ = false ∧ w.frozen? ⟨g, 6, none⟩ = false) :=
 ⟨⟨blk_cell h 0, blk_cell h 1, blk_cell h 2, blk_cell h 3, blk_cell h 4, blk_cell h 5, blk_cell h 6⟩, blk_frozen h 0, blk_frozen h 1, blk_frozen h 2, blk_frozen h 3, blk_frozen h 4, blk_frozen h 5, blk_frozen h 6⟩
end Go.Proofs.Ytdinphnljokigaa.P
end
