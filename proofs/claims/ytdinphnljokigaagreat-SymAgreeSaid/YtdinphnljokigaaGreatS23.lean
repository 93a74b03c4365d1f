/- What LawSymAgree rests on, part 23: several texts put together. -/
import Derived.Test.YtdinphnljokigaaGreatS22
import Derived.Test.YtdinphnljokigaaGreatS3
set_option linter.unusedVariables false
set_option linter.unnecessarySimpa false
set_option linter.unusedSimpArgs false
set_option maxRecDepth 100000
section
namespace Go.Proofs.YtdinphnljokigaaGreat.P
open Go.RowKit Go.Lib Go.Proofs.YtdinphnljokigaaGreatW.PrintWords Go.Proofs.YtdinphnljokigaaGreatW.PrintLast Go.Proofs.YtdinphnljokigaaGreatW.PrintMore
def OwnI (w : World) (M : Mdl) (vU vT vK vD : Value) (PU PT PK PD : Nat → Prop) (wr : World) : Prop :=
 wr.heap[w.heap.size]? = some (.cells (mca M vU vT vK vD) 42 (0, 0)) ∧ wr.heap[w.heap.size + 1]? = some (.cells #[.slice none 0 0, .int .i64 0, .slice none 0 0, .int .i64 0, .int .i64 0, .slice none 0 0, .slice none 0 0] 42 (0, 0)) ∧ Below w.heap.size w wr ∧
 Kd.N kU 67 wr w.heap.size PU vU M.U ∧ Kd.V kS 33 wr 0 PT vT M.T ∧ Kd.N k24 36 wr w.heap.size PK vK M.K ∧ Kd.R kD 48 wr w.heap.size PD vD M.D
theorem ownI_below {w : World} {M : Mdl} {vU vT vK vD : Value} {PU PT PK PD : Nat → Prop} {wr w1 : World} (h : OwnI w M vU vT vK vD PU PT PK PD wr) (hb : Below wr.heap.size wr w1) : OwnI w M vU vT vK vD PU PT PK PD w1 := by
 obtain ⟨h1, h2, h3, h4, h5, h6, h7⟩ := h
 exact ⟨blk_below h1 hb, blk_below h2 hb, below_step h3 hb, Kd.N_below h4 hb, Kd.V_below h5 hb, Kd.N_below h6 hb, Kd.R_below h7 hb⟩
theorem ownI_cells {w : World} {M : Mdl} {vU vT vK vD : Value} {PU PT PK PD : Nat → Prop} {wr : World} (h : OwnI w M vU vT vK vD PU PT PK PD wr) : wr.cell? ⟨w.heap.size, 0, none⟩ = some vU ∧ wr.cell? ⟨w.heap.size, 5, none⟩ = some vK := ⟨blk_cell h.1 0, blk_cell h.1 5⟩
theorem ownI_0 {rb : Nat → Prop} {w W : World} {M : Mdl} {AU AT AK AD BU BT BK BD : Option Addr} {cU cT cK cD dU dT dK dD : Nat} {wU wT wK wD : World} (hz : W.heap.size = w.heap.size + 2) (z1 : W.heap.size ≤ wU.heap.size) (z2 : wU.heap.size ≤ wT.heap.size) (z3 : wT.heap.size ≤ wK.heap.size) (z4 : wK.heap.size ≤ wD.heap.size)
  (NU : Kd.N kU 67 wD W.heap.size (fun k => ((k < w.heap.size ∧ ¬ rb k) ∨ W.heap.size ≤ k) ∧ k < wU.heap.size) (.slice BU M.U.length dU) M.U) {PT PD : Nat → Prop}
  (RT : Kd.R kS 33 wD wU.heap.size PT (.slice BT M.T.length dT) M.T) (hPT : ∀ k, PT k → wU.heap.size ≤ k ∧ k < wT.heap.size)
  (NK : Kd.N k24 36 wD wT.heap.size (fun k => ((k < w.heap.size ∧ ¬ rb k) ∨ wT.heap.size ≤ k) ∧ k < wK.heap.size) (.slice BK M.K.length dK) M.K)
  (RD : Kd.R kD 48 wD wK.heap.size PD (.slice BD M.D.length dD) M.D) (hPD : ∀ k, PD k → wK.heap.size ≤ k ∧ k < wD.heap.size)
  (XB : wD.heap[w.heap.size]? = some (.cells #[.slice AU M.U.length cU, .int .i64 M.idle, .slice AT M.T.length cT, .int .i64 M.epoch, .int .i64 M.now, .slice AK M.K.length cK, .slice AD M.D.length cD] 42 (0, 0)))
  (XR : wD.heap[w.heap.size + 1]? = some (.cells #[.slice none 0 0, .int .i64 0, .slice none 0 0, .int .i64 0, .int .i64 0, .slice none 0 0, .slice none 0 0] 42 (0, 0))) (HB : Below w.heap.size w wD) :
  OwnI w M (.slice BU M.U.length dU) (.slice BT M.T.length dT) (.slice BK M.K.length dK) (.slice BD M.D.length dD) (fun k => (k < w.heap.size ∧ ¬ rb k) ∨ (W.heap.size ≤ k ∧ k < wU.heap.size) ∨ wD.heap.size ≤ k) PT (fun k => (k < w.heap.size ∧ ¬ rb k) ∨ (wT.heap.size ≤ k ∧ k < wK.heap.size)) PD
   ((((wD.setCell ⟨w.heap.size, 0, none⟩ (.slice BU M.U.length dU)).setCell ⟨w.heap.size, 2, none⟩ (.slice BT M.T.length dT)).setCell ⟨w.heap.size, 5, none⟩ (.slice BK M.K.length dK)).setCell ⟨w.heap.size, 6, none⟩ (.slice BD M.D.length dD)) := by
 obtain ⟨W4, hW4⟩ : ∃ W4, W4 = ((((wD.setCell ⟨w.heap.size, 0, none⟩ (.slice BU M.U.length dU)).setCell ⟨w.heap.size, 2, none⟩ (.slice BT M.T.length dT)).setCell ⟨w.heap.size, 5, none⟩ (.slice BK M.K.length dK)).setCell ⟨w.heap.size, 6, none⟩ (.slice BD M.D.length dD)) := ⟨_, rfl⟩
 have far : ∀ k, k ≠ w.heap.size → W4.heap[k]? = wD.heap[k]? := fun k hk => by
  rw [hW4, Below.heap_setCell _ _ _ _ hk, Below.heap_setCell _ _ _ _ hk, Below.heap_setCell _ _ _ _ hk, Below.heap_setCell _ _ _ _ hk]
 have hx : W4.heap[w.heap.size]? = some (.cells (mca M (.slice BU M.U.length dU) (.slice BT M.T.length dT) (.slice BK M.K.length dK) (.slice BD M.D.length dD)) 42 (0, 0)) := by
  rw [hW4]
  exact blk_put (blk_put (blk_put (blk_put XB 0 _ rfl) 2 _ rfl) 5 _ rfl) 6 _ rfl
 have hb : Below w.heap.size w W4 := by
  rw [hW4]
  exact below_set (below_set (below_set (below_set HB (Nat.le_refl _)) (Nat.le_refl _)) (Nat.le_refl _)) (Nat.le_refl _)
 rw [← hW4]
 refine ⟨hx, (far _ (by omega)).trans XR, hb, Kd.N_lower (Kd.N_step (Kd.N_mono NU (ok' := fun k => (k < w.heap.size ∧ ¬ rb k) ∨ (W.heap.size ≤ k ∧ k < wU.heap.size) ∨ wD.heap.size ≤ k) fun k hk => ?_) fun k hk _ => far k (by omega)) (by omega), ?_, Kd.N_lower (Kd.N_step (Kd.N_mono NK (ok' := fun k => (k < w.heap.size ∧ ¬ rb k) ∨ (wT.heap.size ≤ k ∧ k < wK.heap.size)) fun k hk => ?_) fun k hk _ => far k (by omega)) (by omega), Kd.R_lower (Kd.R_step RD fun k hk _ => far k (by have := hPD k hk; omega)) (by omega)⟩
 ·rcases hk with ⟨hk | hk, h2⟩
  ·exact .inl hk
  ·exact .inr (.inl ⟨hk, h2⟩)
 ·obtain ⟨A, c, e, hc, _⟩ := Kd.R_reads RT
  injection e with e1 e2 e3
  subst e1
  have h := Kd.V_mk (e := 33) (base := 0) (xs := M.T) (hc) (Kd.R_F (Kd.R_step RT (w1 := W4) fun k hk _ => far k (by have := hPT k hk; omega)))
  rw [e3]
  exact h
 ·rcases hk with ⟨hk | hk, h2⟩
  ·exact .inl hk
  ·exact .inr ⟨hk, h2⟩
theorem ownI_atU {w : World} {M : Mdl} {g dU : Nat} {vT vK vD : Value} {PU PT PK PD : Nat → Prop} {wr : World} (h : OwnI w M (.slice (some ⟨g, 0, none⟩) M.U.length dU) vT vK vD PU PT PK PD wr) {i : Nat} (hi : i < M.U.length) :
  ∃ A c, (rdU M.U i).key.length ≤ c ∧ (Kd.int .u8).C wr A (rdU M.U i).key.length (rdU M.U i).key ∧ wr.cell? ⟨g, i * 3, none⟩ = some (.int .i64 (rdU M.U i).no) ∧ wr.cell? ⟨g, i * 3 + 1, none⟩ = some (.int .i64 (rdU M.U i).role) ∧ wr.cell? ⟨g, i * 3 + 2, none⟩ = some (.slice A (rdU M.U i).key.length c) ∧ wr.frozen? ⟨g, i * 3 + 2, none⟩ = false := by
 obtain ⟨_, _, _, hN, _⟩ := h
 obtain ⟨c, hcl, hF, hcc, hfr⟩ := Kd.N_elem hN zusr (i : Int) (by omega) (by omega)
 obtain ⟨A2, c2, rfl, l2, g2⟩ := kU_open (Kd.FK_now hF)
 exact ⟨A2, c2, l2, g2, hcc 0 _ rfl, hcc 1 _ rfl, hcc 2 _ rfl, hfr 2⟩
theorem ownI_setU {w : World} {M : Mdl} {g dU : Nat} {vT vK vD : Value} {PU PT PK PD : Nat → Prop} {wr : World} (h : OwnI w M (.slice (some ⟨g, 0, none⟩) M.U.length dU) vT vK vD PU PT PK PD wr) {i : Nat} (hi : i < M.U.length) {b : Nat} {ok : Nat → Prop} {A' : Option Addr} {c' : Nat}
  (hk : (Kd.int .u8).R 5 wr b ok (.slice A' (rdU M.U i).key.length c') (rdU M.U i).key) (hok : ∀ k, ok k → PU k ∧ k ≠ g) (hd : ∀ k, PU k → w.heap.size ≤ k → ¬ PT k ∧ ¬ PK k ∧ ¬ PD k) :
  OwnI w M (.slice (some ⟨g, 0, none⟩) M.U.length dU) vT vK vD PU PT PK PD (wr.setCell ⟨g, i * 3 + 2, none⟩ (.slice A' (rdU M.U i).key.length c')) := by
 obtain ⟨h1, h2, h3, hN, h5, h6, h7⟩ := h
 have hg : w.heap.size ≤ g := Kd.N_base hN g (by simp [Value.ownBlock])
 have hp : PU g := hN.1 g (by simp [Value.ownBlock])
 have n1 : g ≠ w.heap.size := fun e => Kd.N_ne hN h1 (by decide) (by simp [Value.ownBlock, e])
 have n2 : g ≠ w.heap.size + 1 := fun e => Kd.N_ne hN h2 (by decide) (by simp [Value.ownBlock, e])
 obtain ⟨d1, d2, d3⟩ := hd g hp hg
 obtain ⟨c, hcl, hF, hcc, _⟩ := Kd.N_elem hN zusr (i : Int) (by omega) (by omega)
 obtain ⟨A2, c2, rfl, l2, _⟩ := kU_open (Kd.FK_now hF)
 have hseg := (Kd.N_seg (okp := fun k => PU k ∧ k ≠ g) hN (i : Int) (by omega) (by omega) (seg := [.slice A' (rdU M.U i).key.length c']) (j := 2) hcl hcc (Nat.le_refl 3) (x' := rdU M.U i) (kU_mkF _ _ _ (Kd.R_reads' hk).2.1 (Kd.F_mono (Kd.R_F hk) hok)) (fun _ hk => hk)).1
 have hset : M.U.set (i : Int).toNat (rdU M.U i) = M.U := by
  rw [Int.toNat_natCast, rdU_get _ hi]
  exact List.set_getElem_self hi
 rw [hset] at hseg
 exact ⟨blk_far h1 (by show w.heap.size ≠ g; omega) _, blk_far h2 (by show w.heap.size + 1 ≠ g; omega) _, below_set h3 hg, hseg, Kd.V_far (p := ⟨g, i * 3 + 2, none⟩) h5 (fun k hk e => d1 (by rw [show k = g from e] at hk; exact hk)) _, Kd.N_far (p := ⟨g, i * 3 + 2, none⟩) h6 (fun k hk e => d2 (by rw [show k = g from e] at hk; exact hk)) _, Kd.R_far (p := ⟨g, i * 3 + 2, none⟩) h7 (fun k hk e => d3 (by rw [show k = g from e] at hk; exact hk)) _⟩
theorem ownI_atK {w : World} {M : Mdl} {g dK : Nat} {vU vT vD : Value} {PU PT PK PD : Nat → Prop} {wr : World} (h : OwnI w M vU vT (.slice (some ⟨g, 0, none⟩) M.K.length dK) vD PU PT PK PD wr) {i : Nat} (hi : i < M.K.length) :
  ∃ A c, Kd.V k24 36 wr 0 PK (.slice A (rd_T24 M.K i).f2.length c) (rd_T24 M.K i).f2 ∧ wr.cell? ⟨g, i * 3, none⟩ = some (.int .i64 (rd_T24 M.K i).f0) ∧ wr.cell? ⟨g, i * 3 + 1, none⟩ = some (.int .i64 (rd_T24 M.K i).f1) ∧ wr.cell? ⟨g, i * 3 + 2, none⟩ = some (.slice A (rd_T24 M.K i).f2.length c) ∧ wr.frozen? ⟨g, i * 3, none⟩ = false ∧ wr.frozen? ⟨g, i * 3 + 1, none⟩ = false ∧ wr.frozen? ⟨g, i * 3 + 2, none⟩ = false := by
 obtain ⟨_, _, _, _, _, hN, _⟩ := h
 obtain ⟨c, hcl, hF, hcc, hfr⟩ := Kd.N_elem hN z24 (i : Int) (by omega) (by omega)
 obtain ⟨A2, c2, rfl, l2, g2⟩ := k24_openF hF
 exact ⟨A2, c2, Kd.V_mk l2 (Kd.F_mono g2 fun k hk => hk.1), hcc 0 _ rfl, hcc 1 _ rfl, hcc 2 _ rfl, hfr 0, hfr 1, hfr 2⟩
theorem ownI_noK {w : World} {M : Mdl} {g dK : Nat} {vU vT vD : Value} {PU PT PK PD : Nat → Prop} {wr : World} (h : OwnI w M vU vT (.slice (some ⟨g, 0, none⟩) M.K.length dK) vD PU PT PK PD wr) {i : Nat} (hi : i < M.K.length) {A : Option Addr} {c : Nat} (hV : Kd.V k24 36 wr 0 PK (.slice A (rd_T24 M.K i).f2.length c) (rd_T24 M.K i).f2)
  (_a0 : wr.cell? ⟨g, i * 3, none⟩ = some (.int .i64 (rd_T24 M.K i).f0)) (_a1 : wr.cell? ⟨g, i * 3 + 1, none⟩ = some (.int .i64 (rd_T24 M.K i).f1)) (a2 : wr.cell? ⟨g, i * 3 + 2, none⟩ = some (.slice A (rd_T24 M.K i).f2.length c)) : Kd.V k24 36 wr 0 (fun k => PK k ∧ k ≠ g) (.slice A (rd_T24 M.K i).f2.length c) (rd_T24 M.K i).f2 := by
 obtain ⟨_, _, _, _, _, hN, _⟩ := h
 obtain ⟨cs, hcl, hF, hcc, hfr⟩ := Kd.N_elem hN z24 (i : Int) (by omega) (by omega)
 obtain ⟨A2, c2, rfl, l2, g2⟩ := k24_openF hF
 have h2 : wr.cell? ⟨g, i * 3 + 2, none⟩ = some (.slice A2 (rd_T24 M.K i).f2.length c2) := hcc 2 _ rfl
 rw [a2] at h2
 injection h2 with h2
 injection h2 with e1 e2 e3
 subst e1 e3
 exact Kd.V_mk l2 g2
theorem ownI_setK {w : World} {M : Mdl} {g dK : Nat} {vU vT vD : Value} {PU PT PK PD : Nat → Prop} {wr : World} (h : OwnI w M vU vT (.slice (some ⟨g, 0, none⟩) M.K.length dK) vD PU PT PK PD wr) {i : Nat} (hi : i < M.K.length) {b : Nat} {ok : Nat → Prop} {A' : Option Addr} {c' : Nat}
  (hk : Kd.V k24 36 wr b ok (.slice A' (rd_T24 M.K i).f2.length c') (rd_T24 M.K i).f2) (hok : ∀ k, ok k → PK k ∧ k ≠ g) (hd : ∀ k, PK k → w.heap.size ≤ k → ¬ PU k ∧ ¬ PT k ∧ ¬ PD k) :
  OwnI w M vU vT (.slice (some ⟨g, 0, none⟩) M.K.length dK) vD PU PT PK PD (((wr.setCell ⟨g, i * 3, none⟩ (.int .i64 (rd_T24 M.K i).f0)).setCell ⟨g, i * 3 + 1, none⟩ (.int .i64 (rd_T24 M.K i).f1)).setCell ⟨g, i * 3 + 2, none⟩ (.slice A' (rd_T24 M.K i).f2.length c')) := by
 obtain ⟨h1, h2, h3, h4, h5, hN, h7⟩ := h
 have hg : w.heap.size ≤ g := Kd.N_base hN g (by simp [Value.ownBlock])
 have hp : PK g := hN.1 g (by simp [Value.ownBlock])
 have n1 : g ≠ w.heap.size := fun e => Kd.N_ne hN h1 (by decide) (by simp [Value.ownBlock, e])
 have n2 : g ≠ w.heap.size + 1 := fun e => Kd.N_ne hN h2 (by decide) (by simp [Value.ownBlock, e])
 obtain ⟨d1, d2, d3⟩ := hd g hp hg
 obtain ⟨c, hcl, hF, hcc, _⟩ := Kd.N_elem hN z24 (i : Int) (by omega) (by omega)
 obtain ⟨A2, c2, rfl, l2, _⟩ := k24_openF hF
 obtain ⟨_, hl', hF'⟩ := Kd.V_at hk
 have hseg := (Kd.N_seg (okp := fun k => PK k ∧ k ≠ g) hN (i : Int) (by omega) (by omega) (seg := [.int .i64 (rd_T24 M.K i).f0, .int .i64 (rd_T24 M.K i).f1, .slice A' (rd_T24 M.K i).f2.length c']) (j := 0) hcl hcc (Nat.le_refl 3) (x' := rd_T24 M.K i) (k24_mkF _ _ _ hl' (Kd.F_mono hF' hok)) (fun _ hk => hk)).1
 have hset : M.K.set (i : Int).toNat (rd_T24 M.K i) = M.K := by
  rw [Int.toNat_natCast, rdT_get _ hi]
  exact List.set_getElem_self hi
 rw [hset] at hseg
 have far : ∀ k, k ≠ g → (((wr.setCell ⟨g, i * 3, none⟩ (.int .i64 (rd_T24 M.K i).f0)).setCell ⟨g, i * 3 + 1, none⟩ (.int .i64 (rd_T24 M.K i).f1)).setCell ⟨g, i * 3 + 2, none⟩ (.slice A' (rd_T24 M.K i).f2.length c')).heap[k]? = wr.heap[k]? := fun k hk => by
  rw [Below.heap_setCell _ _ _ _ hk, Below.heap_setCell _ _ _ _ hk, Below.heap_setCell _ _ _ _ hk]
 exact ⟨(far _ (by omega)).trans h1, (far _ (by omega)).trans h2, below_set (below_set (below_set h3 hg) hg) hg, Kd.N_step h4 (fun k hk _ => far k fun e => d1 (e ▸ hk)), Kd.V_step h5 (fun k hk _ => far k fun e => d2 (e ▸ hk)), hseg, Kd.R_step h7 (fun k hk _ => far k fun e => d3 (e ▸ hk))⟩
def Apart4 (w : World) (rb : Nat → Prop) (PU PT PK PD : Nat → Prop) : Prop := (∀ k, w.heap.size ≤ k → (PU k → ¬ PT k ∧ ¬ PK k ∧ ¬ PD k) ∧ (PK k → ¬ PT k ∧ ¬ PD k) ∧ (PT k → ¬ PD k) ∧ (k < w.heap.size + 2 → ¬ PU k ∧ ¬ PT k ∧ ¬ PK k ∧ ¬ PD k)) ∧ (∀ k, rb k → k < w.heap.size ∧ ¬ PU k ∧ ¬ PT k ∧ ¬ PK k ∧ ¬ PD k)
theorem apart_U {w : World} {rb : Nat → Prop} {PU PT PK PD : Nat → Prop} (h : Apart4 w rb PU PT PK PD) : ∀ k, PU k → w.heap.size ≤ k → ¬ PT k ∧ ¬ PK k ∧ ¬ PD k := fun k hp hk => (h.1 k hk).1 hp
theorem apart_K {w : World} {rb : Nat → Prop} {PU PT PK PD : Nat → Prop} (h : Apart4 w rb PU PT PK PD) : ∀ k, PK k → w.heap.size ≤ k → ¬ PU k ∧ ¬ PT k ∧ ¬ PD k := fun k hp hk => ⟨fun hu => ((h.1 k hk).1 hu).2.1 hp, (h.1 k hk).2.1 hp⟩
theorem apart_D {w : World} {rb : Nat → Prop} {PU PT PK PD : Nat → Prop} (h : Apart4 w rb PU PT PK PD) : ∀ k, PD k → w.heap.size ≤ k → ¬ PU k ∧ ¬ PT k ∧ ¬ PK k := fun k hp hk => ⟨fun hu => ((h.1 k hk).1 hu).2.2 hp, fun ht => (h.1 k hk).2.2.1 ht hp, fun hq => ((h.1 k hk).2.1 hq).2 hp⟩
theorem apart_0 {w : World} {rb : Nat → Prop} {s0 s1 s2 s3 s4 : Nat} {PT PD : Nat → Prop} (hrb : ∀ k, rb k → k < w.heap.size) (h0 : s0 = w.heap.size + 2) (h1 : s0 ≤ s1) (h2 : s1 ≤ s2) (h3 : s2 ≤ s3) (h4 : s3 ≤ s4) (hPT : ∀ k, PT k → s1 ≤ k ∧ k < s2) (hPD : ∀ k, PD k → s3 ≤ k ∧ k < s4) :
  Apart4 w rb (fun k => (k < w.heap.size ∧ ¬ rb k) ∨ (s0 ≤ k ∧ k < s1) ∨ s4 ≤ k) PT (fun k => (k < w.heap.size ∧ ¬ rb k) ∨ (s2 ≤ k ∧ k < s3)) PD := by
 refine ⟨?_, fun k hk => ⟨hrb k hk, fun h => ?_, fun h => ?_, fun h => ?_, fun h => ?_⟩⟩
 rotate_left
 ·have := hrb k hk; rcases h with h | h | h
  ·exact h.2 hk
  ·omega
  ·omega
 ·have := hrb k hk; have := hPT k h; omega
 ·have := hrb k hk; rcases h with h | h
  ·exact h.2 hk
  ·omega
 ·have := hrb k hk; have := hPD k h; omega
 intro k hk
 have hT := hPT k
 have hD := hPD k
 refine ⟨fun hu => ⟨fun ht => ?_, fun hq => ?_, fun hd => ?_⟩, fun hq => ⟨fun ht => ?_, fun hd => ?_⟩, fun ht hd => ?_, fun hz => ⟨fun hu => ?_, fun ht => ?_, fun hq => ?_, fun hd => ?_⟩⟩
 ·have := hT ht; omega
 ·omega
 ·have := hD hd; omega
 ·have := hT ht; omega
 ·have := hD hd; omega
 ·have := hT ht; have := hD hd; omega
 ·omega
 ·have := hT ht; omega
 ·omega
 ·have := hD hd; omega
theorem ownI_phase {w : World} {M : Mdl} {vU vT vK vD : Value} {PU PT PK PD : Nat → Prop} {wr : World} {rb : Nat → Prop} (h : OwnI w M vU vT vK vD PU PT PK PD wr) (ha : Apart4 w rb PU PT PK PD) :
  ∃ QU QT QK QD : Nat → Prop, OwnI w M vU vT vK vD QU QT QK QD wr ∧ Apart4 w rb QU QT QK QD ∧ ∀ k, wr.heap.size ≤ k → QK k := by
 obtain ⟨h1, h2, h3, h4, h5, h6, h7⟩ := h
 have hl : w.heap.size + 2 ≤ wr.heap.size := by have := blk_lt h2; omega
 refine ⟨fun k => PU k ∧ k < wr.heap.size, fun k => PT k ∧ k < wr.heap.size, fun k => PK k ∨ wr.heap.size ≤ k, fun k => PD k ∧ k < wr.heap.size, ⟨h1, h2, h3, Kd.N_bound h4, Kd.V_bound h5, Kd.N_mono h6 fun k hk => .inl hk, Kd.R_mono (Kd.R_bound h7) fun k hk => ⟨hk.1, hk.2.2.1⟩⟩, ⟨fun k hk => ?_, fun k hk => ⟨(ha.2 k hk).1, fun h => (ha.2 k hk).2.1 h.1, fun h => (ha.2 k hk).2.2.1 h.1, fun h => h.elim (ha.2 k hk).2.2.2.1 (by have := (ha.2 k hk).1; omega), fun h => (ha.2 k hk).2.2.2.2 h.1⟩⟩, fun k hk => .inr hk⟩
 obtain ⟨a1, a2, a3, a4⟩ := ha.1 k hk
 refine ⟨fun hu => ⟨fun ht => (a1 hu.1).1 ht.1, fun hq => ?_, fun hd => (a1 hu.1).2.2 hd.1⟩, fun hq => ⟨fun ht => ?_, fun hd => ?_⟩, fun ht hd => a3 ht.1 hd.1, fun hz => ⟨fun hu => (a4 hz).1 hu.1, fun ht => (a4 hz).2.1 ht.1, fun hq => ?_, fun hd => (a4 hz).2.2.2 hd.1⟩⟩
 ·rcases hq with hq | hq
  ·exact (a1 hu.1).2.1 hq
  ·have := hu.2; omega
 ·rcases hq with hq | hq
  ·exact (a2 hq).1 ht.1
  ·have := ht.2; omega
 ·rcases hq with hq | hq
  ·exact (a2 hq).2 hd.1
  ·have := hd.2; omega
 ·rcases hq with hq | hq
  ·exact (a4 hz).2.2.1 hq
  ·omega
theorem ownI_end {w : World} {M : Mdl} {vU vT vK vD : Value} {PU PT PK PD : Nat → Prop} {wr w1 : World} {rb : Nat → Prop} (h : OwnI w M vU vT vK vD PU PT PK PD wr) (ha : Apart4 w rb PU PT PK PD) (hf : ∀ k, k ≠ w.heap.size + 1 → w1.heap[k]? = wr.heap[k]?) : OwnM w1 w.heap.size rb M vU vT vK vD := by
 obtain ⟨h1, h2, h3, h4, h5, h6, h7⟩ := h
 have n1 := (ha.1 (w.heap.size + 1) (by omega)).2.2.2 (by omega)
 exact ⟨PU, PT, PK, PD, Kd.N_V (Kd.N_step h4 fun k hk _ => hf k fun e => n1.1 (e ▸ hk)), Kd.V_step h5 fun k hk _ => hf k fun e => n1.2.1 (e ▸ hk), Kd.N_step h6 fun k hk _ => hf k fun e => n1.2.2.1 (e ▸ hk), Kd.R_step h7 fun k hk _ => hf k fun e => n1.2.2.2 (e ▸ hk),
  fun k hk => apart_K ha k (h6.1 k hk) (Kd.N_base h6 k hk), fun k hk => apart_D ha k (h7.1 k hk) (Kd.R_base h7 k hk), ha.2⟩
theorem put_7 {w : World} {g : Nat} {t : TypeId} {a0 a1 a2 a3 a4 a5 a6 b0 b1 b2 b3 b4 b5 b6 : Value} (h : w.heap[g]? = some (.cells #[a0, a1, a2, a3, a4, a5, a6] t (0, 0))) : (((((((w.setCell ⟨g, 0, none⟩ b0).setCell ⟨g, 1, none⟩ b1).setCell ⟨g, 2, none⟩ b2).setCell ⟨g, 3, none⟩ b3).setCell ⟨g, 4, none⟩ b4).setCell ⟨g, 5, none⟩ b5).setCell ⟨g, 6, none⟩ b6).heap[g]? = some (.cells #[b0, b1, b2, b3, b4, b5, b6] t (0, 0)) :=
 blk_put (cs := #[b0, b1, b2, b3, b4, b5, a6]) (blk_put (cs := #[b0, b1, b2, b3, b4, a5, a6]) (blk_put (cs := #[b0, b1, b2, b3, a4, a5, a6]) (blk_put (cs := #[b0, b1, b2, a3, a4, a5, a6]) (blk_put (cs := #[b0, b1, a2, a3, a4, a5, a6]) (blk_put (cs := #[b0, a1, a2, a3, a4, a5, a6]) (blk_put h 0 b0 rfl) 1 b1 rfl) 2 b2 rfl) 3 b3 rfl) 4 b4 rfl) 5 b5 rfl) 6 b6 rfl
theorem far_7 {w : World} {g : Nat} {b0 b1 b2 b3 b4 b5 b6 : Value} {k : Nat} (hk : k ≠ g) : (((((((w.setCell ⟨g, 0, none⟩ b0).setCell ⟨g, 1, none⟩ b1).setCell ⟨g, 2, none⟩ b2).setCell ⟨g, 3, none⟩ b3).setCell ⟨g, 4, none⟩ b4).setCell ⟨g, 5, none⟩ b5).setCell ⟨g, 6, none⟩ b6).heap[k]? = w.heap[k]? := by
 rw [Below.heap_setCell _ _ _ _ hk, Below.heap_setCell _ _ _ _ hk, Below.heap_setCell _ _ _ _ hk, Below.heap_setCell _ _ _ _ hk, Below.heap_setCell _ _ _ _ hk, Below.heap_setCell _ _ _ _ hk, Below.heap_setCell _ _ _ _ hk]
theorem below_7 {B : Nat} {w0 w : World} (h : Below B w0 w) {g : Nat} (hg : B ≤ g) {b0 b1 b2 b3 b4 b5 b6 : Value} : Below B w0 (((((((w.setCell ⟨g, 0, none⟩ b0).setCell ⟨g, 1, none⟩ b1).setCell ⟨g, 2, none⟩ b2).setCell ⟨g, 3, none⟩ b3).setCell ⟨g, 4, none⟩ b4).setCell ⟨g, 5, none⟩ b5).setCell ⟨g, 6, none⟩ b6) := ((((((h.setCell (p := ⟨g, 0, none⟩) hg b0).setCell (p := ⟨g, 1, none⟩) hg b1).setCell (p := ⟨g, 2, none⟩) hg b2).setCell (p := ⟨g, 3, none⟩) hg b3).setCell (p := ⟨g, 4, none⟩) hg b4).setCell (p := ⟨g, 5, none⟩) hg b5).setCell (p := ⟨g, 6, none⟩) hg b6
theorem ret_7 {tmps : Array Value} {w : World} {fn : Func} {p : Tmp} (h : fn.results = #[.cell p 42]) {g : Nat} {a0 a1 a2 a3 a4 a5 a6 : Value} (hp : tmps.getD p undef = .pointer (some ⟨g, 0, none⟩)) (hg : w.heap[g]? = some (.cells #[a0, a1, a2, a3, a4, a5, a6] 42 (0, 0))) :
  (results fn tmps).run Tryz.prog w = .ok (.agg #[a0, a1, a2, a3, a4, a5, a6]) w :=
 results_cell_row h tmps w g 42 #[a0, a1, a2, a3, a4, a5, a6] (0, 0) _ hp hg Tryz.underlying42 rfl (by kernel_rfl)
end Go.Proofs.YtdinphnljokigaaGreat.P
end
