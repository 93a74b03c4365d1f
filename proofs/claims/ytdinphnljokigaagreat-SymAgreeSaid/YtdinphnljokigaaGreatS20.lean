/- What LawSymAgree rests on, part 20: several texts put together. -/
import Derived.Test.YtdinphnljokigaaGreatS5
import Derived.Test.YtdinphnljokigaaGreatS6
import Derived.Test.YtdinphnljokigaaGreatS4
import Derived.Test.YtdinphnljokigaaGreatS19
import Derived.WalkMore
import Derived.Deep.LoopGhost
import Derived.Test.YtdinphnljokigaaGreatS3
set_option linter.unusedVariables false
set_option linter.unnecessarySimpa false
set_option linter.unusedSimpArgs false
set_option maxRecDepth 100000
section
namespace Go.Proofs.YtdinphnljokigaaGreat.P
open Go.RowKit Go.Proofs.YtdinphnljokigaaGreatW.PrintWords Go.Proofs.YtdinphnljokigaaGreatW.PrintLast
mutual
def tdep : S24 → Nat
 | ⟨_, _, l⟩ => ldep l + 1
def ldep : List S24 → Nat
 | [] => 0
 | x :: l => max (tdep x) (ldep l)
end
mutual
def okT : S24 → Bool
 | ⟨a, b, l⟩ => nodeB a b l.length && okL l
def okL : List S24 → Bool
 | [] => true
 | x :: l => okT x && okL l
end
theorem tdep_eq (x : S24) : tdep x = ldep x.f2 + 1 := by cases x; rw [tdep]
theorem okT_eq (x : S24) : okT x = (nodeB x.f0 x.f1 x.f2.length && okL x.f2) := by cases x; rw [okT]
theorem S24_eta (x : S24) : (⟨x.f0, x.f1, x.f2⟩ : S24) = x := by cases x; rfl
theorem tree_ind {P : S24 → Prop} (h : ∀ x, (∀ y ∈ x.f2, P y) → P x) : ∀ x, P x := by
 have key : ∀ m x, tsize x ≤ m → P x := by
  intro m
  induction m with
  | zero => intro x hx; have := tsize_eq x; omega
  | succ m ih =>
   intro x hx
   refine h x fun y hy => ih y ?_
   have h1 := tsize_eq x
   have h2 := lsize_mem x.f2 y hy
   omega
 exact fun x => key _ x (Nat.le_refl _)
theorem len_lsize : ∀ l : List S24, l.length ≤ lsize l
 | [] => by simp
 | x :: l => by have h1 := len_lsize l; have h2 := tsize_eq x; rw [lsize, List.length_cons]; omega
theorem drop_cons {l s : List S24} {y : S24} {i : Nat} (h : l.drop i = y :: s) : i < l.length ∧ rd_T24 l (i : Int) = y ∧ l.drop (i + 1) = s ∧ y ∈ l := by
 have hi : i < l.length := by
  rcases Nat.lt_or_ge i l.length with h1 | h1
  ·exact h1
  ·rw [List.drop_of_length_le h1] at h; cases h
 have h2 := List.drop_eq_getElem_cons hi
 rw [h] at h2
 injection h2 with h3 h4
 exact ⟨hi, by rw [rdT_get l hi]; exact h3.symm, h4.symm, by rw [h3]; exact List.getElem_mem hi⟩
theorem drop_nil {l : List S24} {i : Nat} (h : l.drop i = []) : l.length ≤ i := by
 rcases Nat.lt_or_ge i l.length with h1 | h1
 ·rw [List.drop_eq_getElem_cons h1] at h; cases h
 ·exact h1
theorem tsize_pos (x : S24) : 1 ≤ tsize x := by rw [tsize_eq]; omega
theorem tdep_pos (x : S24) : 1 ≤ tdep x := by rw [tdep_eq]; omega
theorem foldL_size (l : List S24) (ih : ∀ y ∈ l, ∀ (s d : Int), 0 ≤ s → s + tsize y ≤ 1000000000 → foldT step_Size s y d = s + tsize y) : ∀ (s d : Int), 0 ≤ s → s + lsize l ≤ 1000000000 → foldL step_Size s l d = s + lsize l := by
 induction l with
 | nil => intro s d h0 h1; simp [foldL, lsize]
 | cons y l ihl =>
  intro s d h0 h1
  rw [lsize] at h1 ⊢
  rw [foldL, ih y (by simp) s d h0 (by omega), ihl (fun z hz => ih z (by simp [hz])) _ d (by omega) (by omega)]
  omega
theorem fold_size : ∀ (x : S24) (s d : Int), 0 ≤ s → s + tsize x ≤ 1000000000 → foldT step_Size s x d = s + tsize x := tree_ind fun x ih s d h0 h1 => by
 have hx := tsize_eq x
 rw [foldT_eq, foldL_size x.f2 ih _ _ (by unfold step_Size; rw [w64 (by omega) (by omega)]; omega) (by unfold step_Size; rw [w64 (by omega) (by omega)]; omega)]
 unfold step_Size
 rw [w64 (by omega) (by omega)]
 omega
theorem foldL_may (l : List S24) (ih : ∀ y ∈ l, ∀ (s : Bool) (d : Int), 1 ≤ d → d + tsize y ≤ 1000000000 → foldT step_May s y d = (s && okT y && decide (d + tdep y - 1 ≤ 12))) : ∀ (s : Bool) (d : Int), 1 ≤ d → d + lsize l ≤ 1000000000 → foldL step_May s l d = (s && okL l && (decide (l = []) || decide (d + ldep l - 1 ≤ 12))) := by
 induction l with
 | nil => intro s d h0 h1; simp [foldL, okL]
 | cons y l ihl =>
  intro s d h0 h1
  have hd := tdep_pos y
  rw [lsize] at h1
  rw [foldL, ih y (by simp) s d h0 (by omega), ihl (fun z hz => ih z (by simp [hz])) _ d (by omega) (by omega), ldep, okL]
  by_cases e : l = []
  ·subst e
   rw [okL, ldep, Bool.eq_iff_iff]
   simp only [Bool.and_eq_true, Bool.or_eq_true, decide_eq_true_eq]
   constructor
   ·rintro ⟨⟨⟨⟨h1, h2⟩, h3⟩, h4⟩, h5⟩
    exact ⟨⟨h1, h2, h4⟩, Or.inr (by omega)⟩
   ·rintro ⟨⟨h1, h2, h3⟩, h4⟩
    rcases h4 with h4 | h4
    ·cases h4
    ·exact ⟨⟨⟨⟨h1, h2⟩, by omega⟩, h3⟩, Or.inl trivial⟩
  ·rw [Bool.eq_iff_iff]
   simp only [Bool.and_eq_true, Bool.or_eq_true, decide_eq_true_eq]
   constructor
   ·rintro ⟨⟨⟨⟨h1, h2⟩, h3⟩, h4⟩, h5⟩
    rcases h5 with h5 | h5
    ·exact absurd h5 e
    ·exact ⟨⟨h1, h2, h4⟩, Or.inr (by omega)⟩
   ·rintro ⟨⟨h1, h2, h3⟩, h4⟩
    rcases h4 with h4 | h4
    ·cases h4
    ·exact ⟨⟨⟨⟨h1, h2⟩, by omega⟩, h3⟩, Or.inr (by omega)⟩
theorem fold_may : ∀ (x : S24) (s : Bool) (d : Int), 1 ≤ d → d + tsize x ≤ 1000000000 → foldT step_May s x d = (s && okT x && decide (d + tdep x - 1 ≤ 12)) := tree_ind fun x ih s d h0 h1 => by
 have hx := tsize_eq x
 rw [foldT_eq, w64 (x := d + 1) (by omega) (by omega), foldL_may x.f2 ih _ _ (by omega) (by omega), tdep_eq, okT_eq]
 unfold step_May
 rw [Bool.eq_iff_iff]
 simp only [Bool.and_eq_true, Bool.or_eq_true, decide_eq_true_eq]
 by_cases e : x.f2 = []
 ·rw [e, ldep]
  constructor
  ·rintro ⟨⟨⟨⟨h1, h2⟩, h3⟩, h4⟩, h5⟩
   exact ⟨⟨h1, h2, h4⟩, by omega⟩
  ·rintro ⟨⟨h1, h2, h4⟩, h3⟩
   exact ⟨⟨⟨⟨h1, h2⟩, by omega⟩, h4⟩, Or.inl rfl⟩
 ·constructor
  ·rintro ⟨⟨⟨⟨h1, h2⟩, h3⟩, h4⟩, h5⟩
   rcases h5 with h5 | h5
   ·exact absurd h5 e
   ·exact ⟨⟨h1, h2, h4⟩, by omega⟩
  ·rintro ⟨⟨h1, h2, h4⟩, h3⟩
   exact ⟨⟨⟨⟨h1, h2⟩, by omega⟩, h4⟩, Or.inr (by omega)⟩
def mayT (x : S24) : Bool := okT x && (decide (tsize x ≤ 60) && decide (tdep x ≤ 12))
theorem may_f (x : S24) (h : tsize x ≤ 1000000) : term_May.f x.f0 x.f1 x.f2 = some (mayT x) := by
 unfold term_May.f tmayB mayT
 rw [S24_eta, fold_size x 0 1 (by omega) (by omega), fold_may x true 1 (by omega) (by omega)]
 congr 1
 rw [Bool.eq_iff_iff]
 simp only [Bool.and_eq_true, Bool.true_and, decide_eq_true_eq]
 constructor
 ·rintro ⟨⟨h1, h2⟩, h3⟩
  exact ⟨h1, by omega, by omega⟩
 ·rintro ⟨h1, h2, h3⟩
  exact ⟨⟨h1, by omega⟩, by omega⟩
theorem sameLs_iff (l : List S24) (ih : ∀ x ∈ l, ∀ y, sameT x y = true ↔ x = y) : ∀ k, sameLs l k = true ↔ l = k := by
 induction l with
 | nil => intro k; cases k <;> simp [sameLs]
 | cons x l ihl =>
  intro k
  cases k with
  | nil => simp [sameLs]
  | cons y k =>
   rw [sameLs, Bool.and_eq_true, ih x (by simp) y, ihl (fun z hz => ih z (by simp [hz])) k]
   simp
theorem sameT_iff : ∀ x y : S24, sameT x y = true ↔ x = y := tree_ind fun x ih y => by
 rw [sameT_eq, Bool.and_eq_true, Bool.and_eq_true, beq_iff_eq, beq_iff_eq, sameLs_iff x.f2 ih y.f2]
 cases x; cases y; simp
theorem sameT_self (x : S24) : sameT x x = true := (sameT_iff x x).2 rfl
theorem own_loop (a b : Int) (l : List S24) (hl : lsize l ≤ 1000000) (ih : ∀ y ∈ l, tsize y ≤ 1000000 → Ev (fun k => term_Own.f k y.f0 y.f1 y.f2) (y.f0, y.f1, y.f2)) :
  ∀ (s : List S24) (i : Nat), l.drop i = s → Ev (fun k => term_Own.l0 k (l.length : Int) (i : Int) a b l) (a, b, l) := by
 intro s
 induction s with
 | nil =>
  intro i hs
  have hl := drop_nil hs
  refine Ev.step (f := fun _ => some (a, b, l)) (fun k => ?_) (Ev.const rfl)
  rw [term_Own.l0, if_neg (by omega)]
 | cons y s ihs =>
  intro i hs
  obtain ⟨hi, hr, hd, hm⟩ := drop_cons hs
  have h1 := lsize_mem l y hm
  have h2 := len_lsize l
  refine Ev.step (f := fun k => (term_Own.f k y.f0 y.f1 y.f2).bind fun bt => term_Own.l0 k (l.length : Int) ((i + 1 : Nat) : Int) a b (l.set i ⟨bt.1, bt.2.1, bt.2.2⟩)) (fun k => ?_) ?_
  ·rw [term_Own.l0, if_pos (by omega), if_pos (by omega), if_pos (by omega), hr, w64 (x := (i : Int) + 1) (by omega) (by omega)]
   rfl
  ·refine Ev.bind (ih y hm (by omega)) ?_
   have e : l.set i ⟨y.f0, y.f1, y.f2⟩ = l := by
    rw [S24_eta, ← hr, rdT_get l hi, List.set_getElem_self]
   have h3 := ihs (i + 1) hd
   simp only [e]
   exact h3
theorem own_ev : ∀ x : S24, tsize x ≤ 1000000 → Ev (fun k => term_Own.f k x.f0 x.f1 x.f2) (x.f0, x.f1, x.f2) := tree_ind fun x ih hx => by
 have h1 := tsize_eq x
 have h2 := len_lsize x.f2
 refine Ev.step (fun k => by rw [term_Own.f]) ?_
 unfold api_Term_30.f
 rw [if_pos (by omega)]
 exact own_loop x.f0 x.f1 x.f2 (by omega) (fun y hy hs => ih y hy hs) x.f2 0 rfl
end Go.Proofs.YtdinphnljokigaaGreat.P
end

section
namespace Go.Proofs.YtdinphnljokigaaGreat.P
open Go.RowKit Go.Proofs.YtdinphnljokigaaGreatW.PrintWords Go.Proofs.YtdinphnljokigaaGreatW.PrintLast Go.Proofs.YtdinphnljokigaaGreatW.PrintMore
theorem lsize_append : ∀ l k : List S24, lsize (l ++ k) = lsize l + lsize k
 | [], k => by simp [lsize]
 | x :: l, k => by rw [List.cons_append, lsize, lsize, lsize_append l k]; omega
def inL (l : List S24) (t : S24) : Bool := l.any fun z => sameT z t
def todoN (t : S24) (rest : List S24) : List S24 := if t.f0 = 2 then t.f2 ++ rest else rest
def outN (t : S24) (out : List S24) : List S24 := if inL out t = true then out else out ++ [t]
theorem todoN_size (t : S24) (rest : List S24) : lsize (todoN t rest) + 1 ≤ lsize (t :: rest) := by
 have := tsize_eq t
 unfold todoN
 rw [lsize]
 split
 ·rw [lsize_append]; omega
 ·omega
def partsW (todo out : List S24) : List S24 := match todo with
 | [] => out
 | t :: rest => partsW (todoN t rest) (outN t out)
termination_by lsize todo
decreasing_by have := todoN_size t rest; omega
theorem partsW_nil (out : List S24) : partsW [] out = out := by rw [partsW]
theorem partsW_cons (t : S24) (rest out : List S24) : partsW (t :: rest) out = partsW (todoN t rest) (outN t out) := by rw [partsW]
theorem sl_one (ad : Addr) (m c : Nat) (hc : m + 1 ≤ c) (hm : m + 1 ≤ 9223372036854775807) : ∀ W : World, (Instr.slice 34 (.slice (some ad) (m + 1) c) (some (.int .i64 1)) none none).run Tryz.prog W = .ok (.slice (if c = 1 then some ad else (some ad).map (·.add (1 * 3))) m (c - 1)) W := by
 intro W
 have hel : Tryz.prog.elem 34 = 36 := by simp [Program.elem, Tryz.underlying34]
 have hu : Tryz.prog.underlying 34 = some (.slice (Tryz.prog.elem 34)) := by rw [hel]; exact Tryz.underlying34
 obtain ⟨i0, hi, hzz⟩ := Option.map_eq_some_iff.1 info24
 simp only [Prod.mk.injEq] at hzz
 obtain ⟨_, hz1, _⟩ := hzz
 rw [run_slice_l W 34 (some ad) (m + 1) c hu .i64 1 (by omega) (by omega), hel]
 by_cases h1 : c = 1
 ·simp [sizeOf, typeInfo, hi, hz1, sliced, Result.andThen, h1]
 ·simp [sizeOf, typeInfo, hi, hz1, sliced, Result.andThen, h1]
theorem head_F {W : World} {ok : Nat → Prop} {A : Option Addr} {n : Nat} {t : S24} {rest : List S24} (h : Kd.F k24 W ok A n (t :: rest)) :
  ∃ ad A2 c2, A = some ad ∧ n = rest.length + 1 ∧ W.cell? ad = some (.int .i64 t.f0) ∧ W.cell? ⟨ad.block, ad.off + 1, none⟩ = some (.int .i64 t.f1) ∧ W.cell? ⟨ad.block, ad.off + 2, none⟩ = some (.slice A2 t.f2.length c2) ∧ t.f2.length ≤ c2 ∧ Kd.F k24 W ok A2 t.f2.length t.f2 := by
 have hn := Kd.F_len h
 obtain ⟨ad, cs, rfl, hl, hFK, hc, _⟩ := Kd.F_get h t 0 (by omega) (by rw [← hn]; simp)
 obtain ⟨A2, c2, rfl, h2, h3⟩ := k24_openF hFK
 have e0 := hc 0 _ rfl
 have e1 := hc 1 _ rfl
 have e2 := hc 2 _ rfl
 refine ⟨ad, A2, c2, rfl, by rw [← hn]; rfl, ?_, ?_, ?_, h2, h3⟩
 ·simpa [Addr.add] using e0
 ·simpa [Addr.add] using e1
 ·simpa [Addr.add] using e2
theorem rest_F {W : World} {ok : Nat → Prop} {t : S24} {rest : List S24} {ad : Addr} {c : Nat} (h : Kd.F k24 W ok (some ad) (rest.length + 1) (t :: rest)) (hc : rest.length + 1 ≤ c) :
  Kd.F k24 W ok (if c = 1 then some ad else (some ad).map (·.add (1 * 3))) rest.length rest := by
 have z := Kd.F_cut (c := c) (xs := t :: rest) (m := 1) h (by simp) hc
 exact z
def know_Parts.f (l0 : List (S24)) : Option ((List (S24))) := if lsize l0 ≤ 1000000 then some (if mayL l0 = true then partsW l0 [] else []) else none
set_option maxHeartbeats 4000000 in
set_option maxRecDepth 100000 in
theorem parts_yes (P0_ : Nat → Prop) (A0 : Option Addr) (c0 : Nat) (l0 : List (S24)) (w : World) (hs0 : Kd.V k24 36 w w.heap.size (fun k_ => P0_ k_) (.slice A0 l0.length c0) l0) (hz : lsize l0 ≤ 1000000) (hm : mayL l0 = true) :
  Calls Tryz.prog 61 #[.slice A0 l0.length c0] w fun e w' => ∃ v0_ : Value, e = .returned (v0_) ∧ Kd.N k24 36 w' w.heap.size (fun k_ => (P0_ k_ ∨ w.heap.size ≤ k_)) v0_ (partsW l0 []) ∧ Below w.heap.size w w' := by
 have HS := aq_ hs0
 have HM := aq_ (show know_May.f l0 = some true by unfold know_May.f; rw [hm])
 have HK := aq_ (show api_Term_30.f l0 = some l0 by unfold api_Term_30.f; rw [if_pos (by have := len_lsize l0; omega)])
 have HC := aq_ (Kd.V_reads' hs0)
 have HZ := aq_ hz
 clear hs0 hm hz
 obtain ⟨R, hR⟩ : ∃ R, R = partsW l0 [] := ⟨_, rfl⟩
 rw [← hR]
 have HR := aq_ hR.symm
 clear hR
 go_enter Tryz.func61, Tryz.ntmps61
 go_wp2
 refine wp_scope_straight ?_
 go_wp2_with (first
  | (go_at_call 19; (with_reducible refine (know_May.calls A0 c0 l0 true _ HC.out.2.2 HC.out.2.1 HM.out).mono ?_); rintro e w1 ⟨rfl, hb⟩; have HB := aq_ hb; clear hb)
  | (go_at_call 53; (with_reducible refine (api_Term_30.calls P0_ A0 c0 l0 l0 _ (Kd.V_map HS.out (fun _ hf => Kd.F_below hf HB.out)) HK.out).mono ?_); rintro e w2 ⟨v, rfl, hN, hb⟩; have HN := aq_ (Kd.N_lower (Kd.N_mono (ok' := fun k_ => P0_ k_ ∨ w.heap.size ≤ k_) hN (fun k hk => hk.imp id (fun h => Nat.le_trans HB.out.size h))) HB.out.size); have HB2 := aq_ (below_step HB.out hb); clear hN hb))
 go_step3
 obtain ⟨A1, c1, ev, hl1, _⟩ := Kd.N_reads HN.out
 subst ev
 have HL1 := aq_ hl1
 have HF := aq_ (Kd.N_F HN.out)
 clear hl1
 go_wp2
 go_loopg [3, 4] (lsize l0) (fun k v3 v4 wr => ∃ (todo out : List S24) (A : Option Addr) (n c : Nat) (co : Nat) (Ao : Option Addr), v4 = .slice A n c ∧ v3 = .slice Ao out.length co ∧ Aside0 (n ≤ c) ∧ Aside0 (partsW todo out = R) ∧ Aside0 (out.length + lsize todo ≤ 1000000) ∧ Aside0 (k = lsize todo) ∧ Aside0 (Kd.N k24 36 wr w.heap.size (fun k_ => P0_ k_ ∨ w.heap.size ≤ k_) (.slice Ao out.length co) out) ∧ Aside0 (Kd.F k24 wr (fun k_ => (P0_ k_ ∨ w.heap.size ≤ k_) ∧ some k_ ≠ (Value.slice Ao out.length co).ownBlock) A n todo) ∧ Aside0 (Below w.heap.size w wr))
 case atStart => exact ⟨l0, [], A1, l0.length, c1, 0, none, rfl, rfl, HL1, HR, ⟨by have := HZ.out; simp; omega⟩, ⟨rfl⟩, ⟨Kd.N_nil _ _ _ _ _⟩, ⟨Kd.F_apart_nil HF.out⟩, HB2⟩
 case round =>
  obtain ⟨todo, out, A, n, c, co, Ao, rfl, rfl, HNC, HPW, HSZ, HKK, HO, HF, HB⟩ := hrel
  clear HB2 HN HL1 HR
  cases todo with
  | nil =>
   have hn := Kd.F_len HF.out
   obtain rfl : n = 0 := hn.symm
   go_wp2
   simp only [Exit.noGoto]
   go_ret
   refine ⟨_, rfl, ?_, HB.out⟩
   have := HPW.out
   rw [partsW_nil] at this
   rw [← this]
   exact HO.out
  | cons t rest =>
   obtain ⟨ad, A2, c2, eA, hn, x0, x1, x2, hl2, hF2⟩ := head_F HF.out
   subst eA
   obtain ⟨m, hm⟩ : ∃ m, m = rest.length := ⟨_, rfl⟩
   rw [← hm] at hn
   subst hn
   have HMR := aq_ hm.symm
   clear hm
   have hmm : (0 : Int) < (m : Int) + 1 := by omega
   have hsl := sl_one ad m c HNC.out (Kd.F_max HF.out)
   have hrf := rest_F (t := t) (rest := rest) (ad := ad) (c := c) (by rw [HMR.out]; exact HF.out) (by rw [HMR.out]; exact HNC.out)
   rw [HMR.out] at hrf
   obtain ⟨A3, hA3⟩ : ∃ A3, A3 = (if c = 1 then some ad else (some ad).map (·.add (1 * 3))) := ⟨_, rfl⟩
   rw [← hA3] at hsl hrf
   have HL2 := aq_ hl2
   have HF2 := aq_ hF2
   have HRF := aq_ hrf
   clear hA3 hrf hl2 hF2
   have BX := aq_ (blk_new wr (.cells #[.int .i64 t.f0, .int .i64 t.f1, .slice A2 t.f2.length c2] 36 (0, 0)))
   obtain ⟨⟨k0, k1, k2⟩, j0, j1, j2⟩ := cells3 BX.out
   obtain ⟨b, hb⟩ : ∃ b, (t.f0 == 2) = b := ⟨_, rfl⟩
   have HBB := aq_ hb
   go_upto_if 21 with (fail)
   have HB1 := aq_ (below_alloc HB.out (.cells #[.int .i64 t.f0, .int .i64 t.f1, .slice A2 t.f2.length c2] 36 (0, 0)))
   have HSZ3 : Aside0 (lsize (t :: rest) ≤ 1000000) := ⟨by have := HSZ.out; omega⟩
   clear x0 x1 x2 hsl hmm
   go_cut [4] (fun v4 wc => ∃ (A4 : Option Addr) (n4 c4 : Nat), v4 = .slice A4 n4 c4 ∧ Aside0 (n4 ≤ c4) ∧ Aside0 (wc.heap[wr.heap.size]? = some (.cells #[.int .i64 t.f0, .int .i64 t.f1, .slice A2 t.f2.length c2] 36 (0, 0))) ∧ Aside0 (Kd.F k24 wc (fun k_ => (P0_ k_ ∨ w.heap.size ≤ k_) ∧ some k_ ≠ (Value.slice Ao out.length co).ownBlock) A4 n4 (todoN t rest)) ∧ Aside0 (Kd.F k24 wc (fun k_ => (P0_ k_ ∨ w.heap.size ≤ k_) ∧ some k_ ≠ (Value.slice Ao out.length co).ownBlock) A2 t.f2.length t.f2) ∧ Aside0 (Kd.N k24 36 wc w.heap.size (fun k_ => P0_ k_ ∨ w.heap.size ≤ k_) (.slice Ao out.length co) out) ∧ Aside0 (Below w.heap.size w wc))
   case first =>
    cases b with
    | false =>
     have HT := aq_ (show todoN t rest = rest by unfold todoN; rw [if_neg (by simpa using HBB.out)])
     go_wp2
     go_meet
     case rel => exact ⟨A3, m, c - 1, rfl, ⟨by have := HNC.out; omega⟩, BX, ⟨by rw [HT.out]; exact Kd.F_alloc HRF.out _⟩, ⟨Kd.F_alloc HF2.out _⟩, ⟨Kd.N_alloc HO.out _⟩, HB1⟩
    | true =>
     have HT := aq_ (show todoN t rest = t.f2 ++ rest by unfold todoN; rw [if_pos (by simpa using HBB.out)])
     have hz1 : (wr.alloc (.cells #[.int .i64 t.f0, .int .i64 t.f1, .slice A2 t.f2.length c2] 36 (0, 0))).heap.size = wr.heap.size + 1 := Array.size_push _
     have BQ := blk_new (wr.alloc (.cells #[.int .i64 t.f0, .int .i64 t.f1, .slice A2 t.f2.length c2] 36 (0, 0))) (.cells #[.slice A2 t.f2.length c2, .slice A3 m (c - 1)] 34 (0, 0))
     rw [hz1] at BQ
     have HQ := aq_ BQ
     clear BQ hz1
     go_wp2_with (first | (go_at_call 83; (with_reducible refine (concat_two' _ (wr.heap.size + 1) A2 A3 c2 (c - 1) t.f2 rest m HMR.out (fun k_ => (P0_ k_ ∨ w.heap.size ≤ k_) ∧ some k_ ≠ (Value.slice Ao out.length co).ownBlock) HQ.out (Kd.F_alloc (Kd.F_alloc HF2.out _) _) (Kd.F_alloc (Kd.F_alloc HRF.out _) _) (by have := HSZ3.out; have h1 := tsize_eq t; have h2 := len_lsize t.f2; rw [lsize] at this; omega) (by have := HSZ3.out; have h2 := len_lsize rest; rw [lsize] at this; rw [HMR.out] at h2; omega)).mono ?_); rintro e w3 ⟨v, rfl, hN, hb⟩; have HN3 := aq_ hN; have HB3 := aq_ hb; have HBR := aq_ (below_step (below_alloc (below_alloc (Below.refl wr.heap.size wr) (.cells #[.int .i64 t.f0, .int .i64 t.f1, .slice A2 t.f2.length c2] 36 (0, 0))) (.cells #[.slice A2 t.f2.length c2, .slice A3 m (c - 1)] 34 (0, 0))) hb); obtain ⟨A4, c4, ev, hl4, _⟩ := Kd.N_reads hN; subst ev; have HL4 := aq_ hl4; have HS3 := aq_ hb.size; clear hN hb hl4))
     go_meet
     case rel =>
      refine ⟨A4, (t.f2 ++ rest).length, c4, by first | rfl | (simp; done), HL4, ⟨?_⟩, ⟨?_⟩, ⟨Kd.F_below HF2.out HBR.out⟩, ⟨Kd.N_below HO.out HBR.out⟩, ⟨below_step HB.out HBR.out⟩⟩
      ·exact blk_below (blk_alloc BX.out (.cells #[.slice A2 t.f2.length c2, .slice A3 m (c - 1)] 34 (0, 0))) HB3.out
      ·rw [HT.out]
       exact Kd.F_mono (Kd.N_F HN3.out) (fun k hk => hk.elim id (fun h => ⟨Or.inr (by have h1 := HB1.out.size; have h2 := below_size (below_alloc (Below.refl _ (wr.alloc (.cells #[.int .i64 t.f0, .int .i64 t.f1, .slice A2 t.f2.length c2] 36 (0, 0)))) (.cells #[.slice A2 t.f2.length c2, .slice A3 m (c - 1)] 34 (0, 0))); omega), fun e => by have h1 := Kd.N_lt HO.out k e.symm; have h2 := below_size (below_alloc (below_alloc (Below.refl _ wr) (.cells #[.int .i64 t.f0, .int .i64 t.f1, .slice A2 t.f2.length c2] 36 (0, 0))) (.cells #[.slice A2 t.f2.length c2, .slice A3 m (c - 1)] 34 (0, 0))); omega⟩))
   case rest =>
    clear BX HB1 HRF HF2 HO HB HF k0 k1 k2 j0 j1 j2
    obtain ⟨A4, n4, c4, rfl, HN4, BX, HRF, HF2, HO, HB⟩ := hcut
    obtain ⟨⟨k0, k1, k2⟩, j0, j1, j2⟩ := cells3 BX.out
    have HTS := aq_ (show tsize t ≤ 1000000 by have := HSZ3.out; rw [lsize] at this; omega)
    obtain ⟨b2, hb2⟩ : ∃ b2, inL out t = b2 := ⟨_, rfl⟩
    have HH := aq_ (show know_has.f out t.f0 t.f1 t.f2 = some b2 by rw [← hb2]; unfold know_has.f inL; rw [eta24])
    have HTN := aq_ (todoN_size t rest)
    cases b2 with
    | true =>
     have HOE := aq_ (show outN t out = out by unfold outN; rw [if_pos hb2])
     clear hb2
     go_wp2_with (first | (go_at_call 63; (with_reducible refine (know_has.calls Ao co out t.f0 t.f1 A2 c2 t.f2 true _ (Kd.N_reads' HO.out).2.2 (Kd.N_reads' HO.out).2.1 (Kd.F_now HF2.out) HL2.out HH.out).mono ?_); rintro e w4 ⟨rfl, hb⟩; have HO4 := aq_ (Kd.N_below HO.out hb); have HRF4 := aq_ (Kd.F_below HRF.out hb); have HB4 := aq_ (below_step HB.out hb); clear hb))
     go_roundg (lsize (todoN t rest))
     case measure => have := HTN.out; have := HKK.out; omega
     case rel => exact ⟨todoN t rest, out, A4, n4, c4, co, Ao, rfl, rfl, HN4, ⟨by have := HPW.out; rw [partsW_cons, HOE.out] at this; exact this⟩, ⟨by have := HSZ.out; have := HTN.out; omega⟩, ⟨rfl⟩, HO4, HRF4, HB4⟩
    | false =>
     have HOE := aq_ (show outN t out = out ++ [t] by unfold outN; rw [if_neg (by rw [hb2]; decide)])
     clear hb2
     obtain ⟨q, hq⟩ := Ev.rounds (own_ev t HTS.out)
     have HQO := aq_ hq
     clear hq
     go_wp2_with (first
      | (go_at_call 63; (with_reducible refine (know_has.calls Ao co out t.f0 t.f1 A2 c2 t.f2 false _ (Kd.N_reads' HO.out).2.2 (Kd.N_reads' HO.out).2.1 (Kd.F_now HF2.out) HL2.out HH.out).mono ?_); rintro e w4 ⟨rfl, hb⟩; have HO4 := aq_ (Kd.N_below HO.out hb); have HRF4 := aq_ (Kd.F_below HRF.out hb); have HF4 := aq_ (show Kd.V k24 36 w4 w4.heap.size (fun k_ => (P0_ k_ ∨ w.heap.size ≤ k_) ∧ some k_ ≠ (Value.slice Ao out.length co).ownBlock) (.slice A2 t.f2.length c2) t.f2 from ⟨A2, c2, rfl, HL2.out, Kd.F_below HF2.out hb⟩); have HB4 := aq_ (below_step HB.out hb); have BX4 := aq_ (blk_below BX.out hb); clear hb k0 k1 k2 j0 j1 j2; obtain ⟨⟨k0, k1, k2⟩, j0, j1, j2⟩ := cells3 BX4.out)
      | (go_at_call 56; (with_reducible refine (term_Own.calls q t.f0 t.f1 (fun k_ => (P0_ k_ ∨ w.heap.size ≤ k_) ∧ some k_ ≠ (Value.slice Ao out.length co).ownBlock) A2 c2 t.f2 _ _ _ _ HF4.out HQO.out).mono ?_); rintro e w5 ⟨v2, rfl, hN, hb⟩; have HN5 := aq_ hN; have HO5 := aq_ (Kd.N_below HO4.out hb); have HRF5 := aq_ (Kd.F_below HRF4.out hb); have HB5 := aq_ (below_step HB4.out hb); have HS4 := aq_ hb.size; obtain ⟨A5, c5, ev, hl5, _⟩ := Kd.N_reads hN; subst ev; have HL5 := aq_ hl5; clear hN hb hl5)
      | ((with_reducible refine gate_builtin (b := .append) (xs := #[.tmp 30, .tmp 33]) rfl ?_); at_builtin; refine Kd.N_append k24 (w0 := w) w.heap.size rfl (.tmp 30) (.tmp 33) 34 36 zT 40 rfl Tryz.underlying34 info24 rfl (by decide) (by omega) (.slice Ao out.length co) out t [.int .i64 t.f0, .int .i64 t.f1, .slice A5 t.f2.length c5] (fun k_ => P0_ k_ ∨ w.heap.size ≤ k_) (fun k_ => ((P0_ k_ ∨ w.heap.size ≤ k_) ∧ some k_ ≠ (Value.slice Ao out.length co).ownBlock) ∨ w4.heap.size ≤ k_) rfl rfl (k24_mkF _ _ t HL5.out (Kd.N_F HN5.out)) (fun k hk => hk.elim id (fun h => ⟨Or.inr (Nat.le_trans HB4.out.size h), fun e => by have := Kd.N_lt HO4.out k e.symm; omega⟩)) (fun k hk => Or.inr (Nat.le_trans HB5.out.size hk)) HO5.out HB5.out HB5.out.size (by have := HSZ.out; omega) ?_; intro v' w6 hN hb hg hat; have HO6 := aq_ hN; have HB6 := aq_ hb; have HRF6 := aq_ (Kd.F_after HRF5.out hg hat); obtain ⟨A6, c6, rfl⟩ := Kd.N_slice hN; clear hN hb hg hat))
     go_roundg (lsize (todoN t rest))
     case measure => have := HTN.out; have := HKK.out; omega
     case rel => exact ⟨todoN t rest, out ++ [t], A4, n4, c4, c6, A6, rfl, by first | rfl | (simp; done), HN4, ⟨by have := HPW.out; rw [partsW_cons, HOE.out] at this; exact this⟩, ⟨by have := HSZ.out; have := HTN.out; simp; omega⟩, ⟨rfl⟩, HO6, HRF6, HB6⟩
set_option maxHeartbeats 1000000 in
set_option maxRecDepth 100000 in
theorem know_Parts.calls (P0_ : Nat → Prop) (A0 : Option Addr) (c0 : Nat) (l0 : List (S24)) (r : List (S24)) (w : World) (hs0 : Kd.V k24 36 w w.heap.size (fun k_ => P0_ k_) (.slice A0 l0.length c0) l0) (h : know_Parts.f l0 = some r) :
  Calls Tryz.prog 61 #[.slice A0 l0.length c0] w fun e w' => ∃ v0_ : Value, e = .returned (v0_) ∧ Kd.N k24 36 w' w.heap.size (fun k_ => (P0_ k_ ∨ w.heap.size ≤ k_)) v0_ r ∧ Below w.heap.size w w' := by
 unfold know_Parts.f at h
 by_cases hz : lsize l0 ≤ 1000000
 ·rw [if_pos hz] at h
  have hr := Option.some.inj h
  cases hm : mayL l0 with
  | true =>
   rw [hm, if_pos rfl] at hr
   subst hr
   exact parts_yes P0_ A0 c0 l0 w hs0 hz hm
  | false =>
   rw [hm, if_neg (by decide)] at hr
   subst hr
   have HM := aq_ (show know_May.f l0 = some false by unfold know_May.f; rw [hm])
   have HC := aq_ (Kd.V_reads' hs0)
   clear hs0 hm hz h
   go_enter Tryz.func61, Tryz.ntmps61
   go_wp2
   refine wp_scope_straight ?_
   go_wp2_with (first | (go_at_call 19; (with_reducible refine (know_May.calls A0 c0 l0 false _ HC.out.2.2 HC.out.2.1 HM.out).mono ?_); rintro e w1 ⟨rfl, hb⟩; have HB := aq_ hb; clear hb))
   simp only [Exit.noGoto]
   go_ret
   exact ⟨_, rfl, Kd.N_nil _ _ _ _ _, HB.out⟩
 ·rw [if_neg hz] at h
  cases h
end Go.Proofs.YtdinphnljokigaaGreat.P
end
