/- By hand: term.Unrow. -/
import Derived.Test.YtmmmmedcgmcoaaaHUnSeq
import Derived.Test.YtmmmmedcgmcoaaaHRow
import Derived.Test.YtmmmmedcgmcoaaaHSame
namespace Go.Proofs.Ytmmmmedcgmcoaaa.P
open Go.RowKit Go.Shelf Go.Proofs.YtmmmmedcgmcoaaaW.PrintWords Go.Proofs.YtmmmmedcgmcoaaaW.PrintLast Go.Proofs.YtmmmmedcgmcoaaaW.PrintMore
set_option linter.unusedVariables false
set_option linter.unusedSimpArgs false
attribute [local go_sem] Oper.semAt_some
theorem row_lower {w : World} {base base' : Nat} {e : TypeId} {size : Nat} {v : Value} {n : Nat} {xs : List Value} (h : w.ownsRow base e size v n xs) (hb : base' ≤ base) : w.ownsRow base' e size v n xs := by
  rcases h with ⟨h1, h2 | ⟨g, cap, cur, a, b, r⟩⟩
  · exact ⟨h1, .inl h2⟩
  · exact ⟨h1, .inr ⟨g, cap, cur, a, Nat.le_trans hb b, r⟩⟩
/-- The numbers of a term's spine; do they make the term?; what Unrow tells. -/
def outL (x : S24) : List Int := (stepsL x).map (fun z => z.f1)
def uB (x : S24) : Bool := okRow (outL x) && sameT (rowR (outL x)) x
def uL (x : S24) : List Int := if uB x = true then outL x else []
theorem sameT_eta (p x : S24) : sameT ⟨p.f0, p.f1, p.f2⟩ ⟨x.f0, x.f1, x.f2⟩ = sameT p x := by cases p; cases x; rfl
abbrev SpE := Int × Int × Option Addr × Nat × Nat
def encN (pre : List SpE) : List Value := pre.map (fun z => .int .i64 z.2.1)
def UnI (w : World) (x0 : Value) (x1 : Value) (x2 : Value) (pre : List SpE) (W : World) : Prop :=
  (∃ v, Boxed W (w.heap.size + 1) 25 v ∧ W.ownsRow (w.heap.size + 3) 3 1 v pre.length (encN pre)) ∧ W.heap[w.heap.size]? = some (.cells #[x0, x1, x2] 24 (0, 0)) ∧ w.heap.size + 3 ≤ W.heap.size ∧ Below w.heap.size w W
theorem unI_own (w : World) (x0 x1 x2 : Value) (B : Nat) (hB : w.heap.size ≤ B) : BoxOwn B (w.heap.size + 2) (UnI w x0 x1 x2) := by
  rintro pre W W' row ⟨⟨v, hv, hr⟩, h0, hs, hb⟩ hg hrow
  have ne : ∀ k cs t, W.heap[k]? = some (.cells cs t (0, 0)) → k ≠ w.heap.size + 2 → some k ≠ row := by
    intro k cs t h1 h2 e
    rcases hrow k e.symm with h3 | ⟨_, o, h3, h4⟩
    · exact h2 h3
    · rw [h1] at h3
      injection h3 with h3
      rw [← h3] at h4
      cases h4
  refine ⟨⟨v, hv.kept hg (ne _ _ _ hv (by omega)), hr.kept hg ?_⟩, (hg.block _ (blk_lt h0) (ne _ _ _ h0 (by omega))).trans h0, Nat.le_trans hs hg.size, hb.grown hg hb.size (fun k e => ?_)⟩
  · rcases hr.2 with ⟨rfl, _⟩ | ⟨g, cap, cur, rfl, hge, hgb, _⟩
    · exact .inl rfl
    · exact .inr (fun e => ne g _ _ hgb (by omega) (by simpa [Value.ownBlock] using e))
  · rcases hrow k e with h | ⟨h, _⟩ <;> omega
set_option maxRecDepth 100000 in
set_option maxHeartbeats 4000000 in
theorem unrow_in (x : S24) (A : Option Addr) (c : Nat) (w : World) (hr0 : Kd.C k24 w A x.f2.length x.f2) (hc : x.f2.length ≤ c) (hlen : (stepsL x).length < 3518437208883) :
    CallsIn Fence.wide 9 Try.prog 13 #[.agg #[.int .i64 x.f0, .int .i64 x.f1, .slice A x.f2.length c]] w fun e w' => ∃ v0_ : Value, e = .returned (.tuple #[v0_, .bool (uB x)]) ∧ Kd.R (Kd.int .i64) 3 w' w.heap.size (fun _ => True) v0_ (uL x) ∧ Below w.heap.size w w' := by
  have t29 : Fence.wide.fn 29 := trivial
  have t39 : Fence.wide.fn 39 := trivial
  have t11 : Fence.wide.fn 11 := trivial
  have t24 : Fence.wide.fn 24 := trivial
  obtain ⟨i0, hi, hz0, hz1, hz2⟩ := info_parts info3
  have HC := Aside0.mk hr0
  have HLEN := Aside0.mk hlen
  have HCC := Aside0.mk hc
  clear hr0 hlen hc
  refine callsIn_of_wp_marks Try.func13 rfl trivial ?_ rfl
  simp only [Try.ntmps13, List.size_toArray, List.length_cons, List.length_nil, Nat.reduceAdd, Nat.reduceSub, Array.replicate_succ, Array.replicate_zero, List.push_toArray, List.append_toArray, List.nil_append, List.cons_append]
  gi_wp2_with (first | (gi_at_call 29; refine (steps_in Fence.wide _ t29 rfl _ _ _ _).mono ?_; rintro e w6_ ⟨rfl, hw6_⟩))
  clear hw6_
  have hs1 : (w.alloc (.cells #[.int .i64 x.f0, .int .i64 x.f1, .slice A x.f2.length c] 24 (0, 0))).heap.size = w.heap.size + 1 := Array.size_push _
  have hs2 : ((w.alloc (.cells #[.int .i64 x.f0, .int .i64 x.f1, .slice A x.f2.length c] 24 (0, 0))).alloc (.cells #[.slice none 0 0] 25 (0, 0))).heap.size = w.heap.size + 2 := (Array.size_push _).trans (by rw [hs1])
  obtain ⟨w6, hw6⟩ : ∃ w6, w6 = ((w.alloc (.cells #[.int .i64 x.f0, .int .i64 x.f1, .slice A x.f2.length c] 24 (0, 0))).alloc (.cells #[.slice none 0 0] 25 (0, 0))).alloc (.cells #[.int .i64 x.f0, .int .i64 x.f1, .slice A x.f2.length c] 24 (0, 0)) := ⟨_, rfl⟩
  have hs6 : w6.heap.size = w.heap.size + 3 := by rw [hw6]; exact (Array.size_push _).trans (by rw [hs2])
  have c0 : w6.heap[w.heap.size]? = some (.cells #[.int .i64 x.f0, .int .i64 x.f1, .slice A x.f2.length c] 24 (0, 0)) := by rw [hw6]; exact blk_alloc (blk_alloc (blk_new w _) _) _
  have bO : Boxed w6 (w.heap.size + 1) 25 (.slice none 0 0) := by
    have z := Boxed.new (w.alloc (.cells #[.int .i64 x.f0, .int .i64 x.f1, .slice A x.f2.length c] 24 (0, 0))) 25 (.slice none 0 0)
    rw [hs1] at z
    rw [hw6]
    exact z.alloc _
  have c2 : w6.heap[w.heap.size + 2]? = some (.cells #[.int .i64 x.f0, .int .i64 x.f1, .slice A x.f2.length c] 24 (0, 0)) := by
    have z := blk_new ((w.alloc (.cells #[.int .i64 x.f0, .int .i64 x.f1, .slice A x.f2.length c] 24 (0, 0))).alloc (.cells #[.slice none 0 0] 25 (0, 0))) (.cells #[.int .i64 x.f0, .int .i64 x.f1, .slice A x.f2.length c] 24 (0, 0))
    rw [hs2] at z
    rw [hw6]
    exact z
  have hb6 : Below w.heap.size w w6 := by rw [hw6]; exact below_alloc (below_alloc (below_alloc (Below.refl _ w) _) _) _
  rw [← hw6]
  clear hw6 hs1
  refine wpIn_rangeFunc_box rfl (by omega) (gf := 39) (lb := #[.pointer (some ⟨w.heap.size + 2, 0, none⟩)]) rfl t39 (enters_of Try.func39 (by kernel_rfl) rfl)
    (steps_box Fence.wide _ t39 rfl (by omega) (w.heap.size + 2) w A c x HC.out (by omega) w6 hb6 c2) (by omega) kpB_t (kpB_b (by omega) (by omega)) (Below.refl _ _) (fun _ => rfl)
    (UnI w (.int .i64 x.f0) (.int .i64 x.f1) (.slice A x.f2.length c)) (unI_own _ _ _ _ _ (by omega))
    ⟨⟨_, bO, World.ownsRow_nil _ _ _ _⟩, c0, by omega, hb6⟩
    (fun z a' W => ∃ Bx, w6.heap.size ≤ Bx ∧ W.heap[Bx]? = some (.cells #[.int .i64 z.1, .int .i64 z.2.1, .slice z.2.2.1 z.2.2.2.1 z.2.2.2.2] 24 (0, 0)) ∧ a' = { tmps := #[.agg #[.int .i64 x.f0, .int .i64 x.f1, .slice A x.f2.length c], .pointer (some ⟨w.heap.size, 0, none⟩), .slice none 0 0, .bool false, .pointer (some ⟨w.heap.size + 1, 0, none⟩), .pointer (some ⟨Bx, 0, none⟩), undef, undef, .agg #[.int .i64 x.f0, .int .i64 x.f1, .slice A x.f2.length c], .func (.func 39) #[] #[.pointer (some ⟨w.heap.size + 2, 0, none⟩)], .agg #[.int .i64 z.1, .int .i64 z.2.1, .slice z.2.2.1 z.2.2.2.1 z.2.2.2.2], undef, undef, undef, undef, undef, undef, undef, undef, undef, undef, undef, undef, undef, undef, undef, undef, undef, undef, undef], defers := [] })
    ?ax ?assign ?body ?done
  case ax =>
    rintro z a' W l o o' ⟨Bx, h1, h2, h3⟩ hl ho hoc
    refine ⟨Bx, h1, (World.putObj_heap_other (fun e => ?_)).trans h2, h3⟩
    rw [e, ho] at h2
    injection h2 with h2
    rw [h2] at hoc
    cases hoc
  case assign =>
    rintro lk pre z W ⟨⟨v, hv, hrow⟩, h0, hsz, hb⟩
    simp only [encT]
    gi_wp2
    exact ⟨(KeepsOthers.alloc _ _).from _, ⟨(below_alloc (Below.refl W.heap.size W) _).mono (by omega), Below.heap_alloc _ _ _ (by omega)⟩, ⟨⟨v, hv.alloc _, hrow.alloc _⟩, blk_alloc h0 _, by rw [show ∀ o : Obj, (W.alloc o).heap.size = W.heap.size + 1 from fun o => Array.size_push _]; omega, below_alloc hb _⟩, ⟨W.heap.size, by omega, blk_new W _, rfl⟩⟩
  case body =>
    rintro lk pre z a' W ⟨⟨v, hv, hrow⟩, h0, hsz, hb⟩ ⟨Bx, hBx, bX, rfl⟩ hlt
    have hcl := hv.cell
    have x1 : W.cell? ⟨Bx, 1, none⟩ = some (.int .i64 z.2.1) := blk_cell bX 1
    have hsz6 : w.heap.size ≤ W.heap.size := by omega
    have hlen := HLEN.out
    gi_wp2_with (gi_at_builtin; refine wpListIn_append_own _ rfl _ _ 25 rfl (w.heap.size + 3) 3 i0 (.int .i64 0) 1 8 Try.underlying25 hi hz0 hz1 hz2 rfl (by decide) _ _ _ rfl (hrow.alloc _) ⟨W.heap.size, 0, none⟩ 1 1 [.int .i64 z.2.1] rfl rfl (World.news_of_block (cs := #[.int .i64 z.2.1]) (t := 3) (fr := (0, 0)) (heap_alloc_new W _)) (by simp [Value.oneCell']) (by simp only [maxLen]; omega) (by omega) (by simp; omega) ?_; intro v' w1 hown' hgrow _; obtain ⟨g', cap', rfl⟩ := ownsRow_succ hown'; obtain ⟨hv1, hv2, _, hk2, hb2⟩ := hv.appended (by decide) (row_lower hrow (base' := w.heap.size) (by omega)) hsz6 (by omega) (row_lower hown' (base' := w.heap.size) (by omega)) hgrow; have hc1 := hv1.cell; have hf1 := hv1.frozen)
    have hr3 := hown'.kept (grownBy_setCell' w1 (w.heap.size + 1) (.slice (some ⟨g', 0, none⟩) (pre.length + 1) cap')) (.inr (hv1.not_row (by decide) hown').symm)
    have own : ∀ k, k < w.heap.size + 3 → some k ≠ v.ownBlock := fun k hk e => by have := (hrow.lt k e.symm).1; omega
    have far : ∀ k, k < w.heap.size + 3 → k ≠ w.heap.size + 1 → (w1.setCell ⟨w.heap.size + 1, 0, none⟩ (.slice (some ⟨g', 0, none⟩) (pre.length + 1) cap')).heap[k]? = W.heap[k]? := fun k hk hne =>
      (Below.heap_setCell w1 ⟨w.heap.size + 1, 0, none⟩ _ k hne).trans ((hgrow.block k (by rw [show ∀ o : Obj, (W.alloc o).heap.size = W.heap.size + 1 from fun o => Array.size_push _]; omega) (own k hk)).trans (Below.heap_alloc _ _ _ (by omega)))
    refine ⟨hk2.from _, ⟨hb2, far _ (by omega) (by omega)⟩, ⟨⟨_, hv2, ?_⟩, (far _ (by omega) (by omega)).trans h0, Nat.le_trans hsz hb2.size, hb.trans hb2⟩⟩
    unfold encN
    rw [List.map_append, List.length_append]
    exact hr3
  case done =>
    rintro D ys W hD hys ⟨⟨v, hv, hrow⟩, h0, hsz, hb⟩ hK
    obtain ⟨out, hout⟩ : ∃ out, out = outL x := ⟨_, rfl⟩
    have hyo : ys.map (fun z => z.2.1) = out := by rw [hout]; exact hys
    have hyl : ys.length = out.length := by rw [← hyo, List.length_map]
    have hen : encN ys = encs (Value.int .i64) out := by rw [← hyo]; simp [encN, encs]
    rw [hyl, hen] at hrow
    have hRR : Kd.R (Kd.int .i64) 3 W (w.heap.size + 3) (fun _ => True) v out := Kd.R_of_own hrow (fun _ _ => trivial)
    obtain ⟨A9, c9, rfl, hl9, hC9⟩ := Kd.R_reads hRR
    have hcl := hv.cell
    obtain ⟨⟨q0, q1, q2⟩, f0, f1, f2⟩ := cells3 h0
    have HRR := Aside0.mk hRR
    have HL9 := Aside0.mk hl9
    have HC9 := Aside0.mk hC9
    have HBW := Aside0.mk hb
    have H0 := Aside0.mk h0
    have HKD := Aside0.mk hK
    have HO := Aside0.mk hout
    have HV := Aside0.mk hv
    have HCW := Aside0.mk (Kd.C_below HC.out hb)
    clear hRR hl9 hC9 hb h0 hK hout hv hyo hyl hen hrow hys c0 bO c2 hb6 hs2
    have HUB : Aside0 (uB x = (okRow out && sameT (rowR out) x)) := ⟨by rw [HO.out]; rfl⟩
    have HUL : Aside0 (uL x = if uB x = true then out else []) := ⟨by rw [HO.out]; rfl⟩
    have hneD : D ≠ w.heap.size := by omega
    have hDW := blk_lt HKD.out
    have HDW := Aside0.mk hDW
    obtain ⟨p, hp⟩ : ∃ p, p = rowR out := ⟨_, rfl⟩
    have HPP := Aside0.mk hp
    obtain ⟨ok, hok⟩ : ∃ ok, ok = okRow out := ⟨_, rfl⟩
    have HOK := Aside0.mk hok
    obtain ⟨sm, hsm⟩ : ∃ sm, sm = sameT p x := ⟨_, rfl⟩
    have HSM := Aside0.mk hsm
    clear hp hok hsm hDW
    have HF : Aside0 (term_Row.f out = some (p.f0, p.f1, p.f2, ok)) := ⟨by rw [HPP.out, HOK.out]; rfl⟩
    have HG : Aside0 (term_Same.f p.f0 p.f1 p.f2 x.f0 x.f1 x.f2 = some sm) := ⟨by rw [HSM.out, ← sameT_eta]; rfl⟩
    cases ok
    all_goals cases sm
    all_goals
      gi_wp2_with (first
        | (gi_at_call 11; refine (callsIn_wide.2 (term_Row.calls A9 c9 out p.f0 p.f1 p.f2 _ _ HC9.out HL9.out HF.out)).mono ?_; rintro e w1 ⟨v2, rfl, hV, hb1⟩; obtain ⟨A5, c5, rfl⟩ := Kd.V_slice hV; have HVV := Aside0.mk hV; have HB1 := Aside0.mk hb1; obtain ⟨⟨k0, k1, k2⟩, j0, j1, j2⟩ := cells3 (blk_alloc (blk_below H0.out hb1) (.cells #[.int .i64 p.f0, .int .i64 p.f1, .slice A5 p.f2.length c5] 24 (0, 0))); have cl1 : (w1.alloc (.cells #[.int .i64 p.f0, .int .i64 p.f1, .slice A5 p.f2.length c5] 24 (0, 0))).cell? ⟨w.heap.size + 1, 0, none⟩ = _ := ((HV.out.kept (grown_of_below hb1 none) (by simp)).alloc _).cell; clear hV hb1)
        | (gi_at_call 24; refine (callsIn_wide.2 (term_Same.calls p.f0 p.f1 A5 c5 p.f2 x.f0 x.f1 A c x.f2 _ _ (Kd.V_reads' (Kd.V_alloc HVV.out _)).2.2 (Kd.V_reads' (Kd.V_alloc HVV.out (.cells #[] 24 (0, 0)))).2.1 (Kd.C_below (Kd.C_below HCW.out HB1.out) (below_alloc (Below.refl _ _) _)) HCC.out HG.out)).mono ?_; rintro e w2 ⟨rfl, hb2⟩; have HB2 := Aside0.mk hb2; have cl2 : w2.cell? ⟨w.heap.size + 1, 0, none⟩ = _ := (((HV.out.kept (grown_of_below HB1.out none) (by simp)).alloc _).kept (grown_of_below hb2 none) (by simp)).cell; clear hb2))
    · have hbf0 : Below W.heap.size W (w1.alloc (.cells #[.int .i64 p.f0, .int .i64 p.f1, .slice A5 p.f2.length c5] 24 (0, 0))) := HB1.out.trans ((below_alloc (Below.refl w1.heap.size w1) _).mono HB1.out.size)
      have hbf := hbf0
      have hub : uB x = false := by rw [HUB.out, ← HOK.out]; rfl
      have hul : uL x = [] := by rw [HUL.out, hub]; rfl
      have hKf := blk_below HKD.out hbf
      rw [hub, hul]
      refine ⟨by simp, .inl ⟨_, _, rfl, run_takeDeferred hKf, ?_⟩⟩
      refine ⟨_, results_tmp2 rfl _ _ _, _, rfl, ?_, (HBW.out.trans (hbf.mono HBW.out.size)).trans (belowK_b (w := w) (Nat.le_refl _) _ D _ _ (by omega) hKf rfl rfl)⟩
      exact Kd.R_nil _ _ _ _ _
    · have hbf0 : Below W.heap.size W (w1.alloc (.cells #[.int .i64 p.f0, .int .i64 p.f1, .slice A5 p.f2.length c5] 24 (0, 0))) := HB1.out.trans ((below_alloc (Below.refl w1.heap.size w1) _).mono HB1.out.size)
      have hbf := hbf0
      have hub : uB x = false := by rw [HUB.out, ← HOK.out]; rfl
      have hul : uL x = [] := by rw [HUL.out, hub]; rfl
      have hKf := blk_below HKD.out hbf
      rw [hub, hul]
      refine ⟨by simp, .inl ⟨_, _, rfl, run_takeDeferred hKf, ?_⟩⟩
      refine ⟨_, results_tmp2 rfl _ _ _, _, rfl, ?_, (HBW.out.trans (hbf.mono HBW.out.size)).trans (belowK_b (w := w) (Nat.le_refl _) _ D _ _ (by omega) hKf rfl rfl)⟩
      exact Kd.R_nil _ _ _ _ _
    · have hbf0 : Below W.heap.size W (w1.alloc (.cells #[.int .i64 p.f0, .int .i64 p.f1, .slice A5 p.f2.length c5] 24 (0, 0))) := HB1.out.trans ((below_alloc (Below.refl w1.heap.size w1) _).mono HB1.out.size)
      have hbf : Below W.heap.size W w2 := hbf0.trans (HB2.out.mono hbf0.size)
      have hub : uB x = false := by rw [HUB.out, ← HOK.out, ← HPP.out, ← HSM.out]; rfl
      have hul : uL x = [] := by rw [HUL.out, hub]; rfl
      have hKf := blk_below HKD.out hbf
      rw [hub, hul]
      refine ⟨by simp, .inl ⟨_, _, rfl, run_takeDeferred hKf, ?_⟩⟩
      refine ⟨_, results_tmp2 rfl _ _ _, _, rfl, ?_, (HBW.out.trans (hbf.mono HBW.out.size)).trans (belowK_b (w := w) (Nat.le_refl _) _ D _ _ (by omega) hKf rfl rfl)⟩
      exact Kd.R_nil _ _ _ _ _
    · have hbf0 : Below W.heap.size W (w1.alloc (.cells #[.int .i64 p.f0, .int .i64 p.f1, .slice A5 p.f2.length c5] 24 (0, 0))) := HB1.out.trans ((below_alloc (Below.refl w1.heap.size w1) _).mono HB1.out.size)
      have hbf : Below W.heap.size W w2 := hbf0.trans (HB2.out.mono hbf0.size)
      have hub : uB x = true := by rw [HUB.out, ← HOK.out, ← HPP.out, ← HSM.out]; rfl
      have hul : uL x = out := by rw [HUL.out, hub]; rfl
      have hKf := blk_below HKD.out hbf
      rw [hub, hul]
      refine ⟨by simp, .inl ⟨_, _, rfl, run_takeDeferred hKf, ?_⟩⟩
      refine ⟨_, results_tmp2 rfl _ _ _, _, rfl, ?_, (HBW.out.trans (hbf.mono HBW.out.size)).trans (belowK_b (w := w) (Nat.le_refl _) _ D _ _ (by omega) hKf rfl rfl)⟩
      have hput := ownsRow_putObj (Kd.own_of_R (Kd.R_step HRR.out (fun k _ hlt => hbf.block k hlt))) (l := D) (o := .deferred (some [])) (.deferred none) hKf rfl
      exact Kd.R_of_own (row_lower hput (by omega)) (fun _ _ => trivial)
def term_Unrow.f (a0_0 : Int) (a0_1 : Int) (l0_2 : List (S24)) : Option (List Int × Bool) := if (stepsL ⟨a0_0, a0_1, l0_2⟩).length < 3518437208883 then some (uL ⟨a0_0, a0_1, l0_2⟩, uB ⟨a0_0, a0_1, l0_2⟩) else none
theorem term_Unrow.calls (a0_0 : Int) (a0_1 : Int) (A0_2 : Option Addr) (c0_2 : Nat) (l0_2 : List (S24)) (r1 : List Int) (r2 : Bool) (w : World) (hr0_2 : Kd.C k24 w A0_2 l0_2.length l0_2) (hc0_2 : l0_2.length ≤ c0_2) (h : term_Unrow.f a0_0 a0_1 l0_2 = some (r1, r2)) :
    Calls Try.prog 13 #[.agg #[.int .i64 a0_0, .int .i64 a0_1, .slice A0_2 l0_2.length c0_2]] w fun e w' => ∃ v0_ : Value, e = .returned (.tuple #[v0_, .bool r2]) ∧ Kd.R (Kd.int .i64) 3 w' w.heap.size (fun _ => True) v0_ r1 ∧ Below w.heap.size w w' := by
  unfold term_Unrow.f at h
  split at h
  case isFalse => simp at h
  rename_i hlen
  injection h with h
  injection h with h1 h2
  subst h1
  subst h2
  exact (callsIn_wide (n := 9)).1 (unrow_in ⟨a0_0, a0_1, l0_2⟩ A0_2 c0_2 w hr0_2 hc0_2 hlen)
end Go.Proofs.Ytmmmmedcgmcoaaa.P
