/- What LawSymForge rests on, part 38: several texts put together. -/
import Derived.Test.YtdinphnljokigaaGreatR36
import Derived.Test.YtdinphnljokigaaGreatR37
import Derived.Test.YtdinphnljokigaaGreatR2
set_option linter.unusedVariables false
set_option linter.unnecessarySimpa false
set_option linter.unusedSimpArgs false
set_option maxRecDepth 100000
section
namespace Go.Proofs.YtdinphnljokigaaGreat.P
open Go.RowKit Go.Lib Go.Proofs.YtdinphnljokigaaGreatW.PrintWords Go.Proofs.YtdinphnljokigaaGreatW.PrintLast Go.Proofs.YtdinphnljokigaaGreatW.PrintMore
structure ForkF (w : World) (v : Value) (g : Nat) (l : List S24) (w' : World) : Prop where
 box : w'.heap[g]? = some (.cells #[.int .i64 0, .int .i64 0, .slice none 0 0] 36 (0, 0))
 row : Kd.V k24 36 w' 0 (fun j => w.heap.size ≤ j ∧ j ≠ g) v l
 below : Below w.heap.size w w'
 fresh : w.heap.size ≤ g
theorem forkF_1 {w wq : World} {v : Value} {l : List S24} (hV : Kd.V k24 36 wq w.heap.size (fun j => w.heap.size ≤ j) v l) (hb : Below w.heap.size w wq) : ForkF w v wq.heap.size l (wq.alloc (.cells #[.int .i64 0, .int .i64 0, .slice none 0 0] 36)) :=
 ⟨blk_new _ _, Kd.V_mono (Kd.V_below (Kd.V_bound hV) (below_alloc (Below.refl _ _) _)) fun k hk => ⟨hk.1, Nat.ne_of_lt hk.2⟩, hb.trans (Below.mono (below_alloc (Below.refl _ _) _) hb.size), hb.size⟩
theorem forkF_2 {w wq : World} {v : Value} {l : List S24} (hV : Kd.V k24 36 wq (w.alloc (.cells #[.int .i64 0, .int .i64 0, .slice none 0 0] 36)).heap.size (fun j => (w.alloc (.cells #[.int .i64 0, .int .i64 0, .slice none 0 0] 36)).heap.size ≤ j) v l)
  (hb : Below (w.alloc (.cells #[.int .i64 0, .int .i64 0, .slice none 0 0] 36)).heap.size (w.alloc (.cells #[.int .i64 0, .int .i64 0, .slice none 0 0] 36)) wq) : ForkF w v w.heap.size l wq :=
 ⟨blk_below (blk_new w _) hb, Kd.V_mono hV fun k hk => by rw [size_al] at hk; exact ⟨by omega, by omega⟩, (below_alloc (Below.refl _ w) _).trans (Below.mono hb (Nat.le_of_lt (lt_al w _))), Nat.le_refl _⟩
section
variable {ops : Array Oper} {rest : List Oper} {o : Oper} {a : Act} {w : World} {Q : Exit → Act → World → Prop} {K : Act → World → Prop}
theorem store_Ts (hw : Region.wanted o (yielded ops a.tmps) = true) (x y : Operand) (ho : o.op = .store 36 x y) (hN : o.dst = none) {g : Nat} {f0 f1 : Int} {A : Option Addr} {n c : Nat} {old : Array Value} (hold : old.size = 3) (hx : a.eval x = .pointer (some ⟨g, 0, none⟩)) (hy : a.eval y = .agg #[.int .i64 f0, .int .i64 f1, .slice A n c])
  (hg : w.heap[g]? = some (.cells old 36 (0, 0)))
  (h : ∀ w1 : World, w1.heap[g]? = some (.cells #[.int .i64 f0, .int .i64 f1, .slice A n c] 36 (0, 0)) → (∀ B, B ≤ g → Below B w w1) → (∀ k, k ≠ g → w1.heap[k]? = w.heap[k]?) → K a w1) :
  if Region.wanted o (yielded ops a.tmps) = true then Oper.wp Tryz.prog o a w K Q else K (a.put none undef) w := by
 rw [if_pos hw]
 refine wp_store_row 36 x y ho g #[.int .i64 f0, .int .i64 f1, .slice A n c] hx hy 36 old hg (by rw [infoTe]; rfl) (by rw [hold]; rfl) ?_ ?_
 ·simp [Value.oneCell']
 ·rw [hN]
  refine h _ (setRow_heap _ _ _ _ _ _ hg) (fun B hB => ?_) (fun k hk => setRow_other _ _ _ _ hk)
  have hb := Below.refl B w
  refine ⟨hb.os, hb.tape, hb.output, (by simpa only [size_setRow] using hb.size), fun k hk => ?_⟩
  rw [setRow_other _ _ _ _ (by omega)]
theorem field_Mk (x : Operand) (ho : o.op = .field 42 x 5) (hgd : o.guard = none) {M : Mdl} {vU vT vK vD : Value} (hx : a.eval x = .agg (mca M vU vT vK vD)) (h : wpList Tryz.prog ops Q rest (a.put o.dst vK) w) : wpList Tryz.prog ops Q (o :: rest) a w := by
 refine Kd.event_run hgd (v := vK) ?_ h
 unfold execOp
 rw [ho]
 simp only [hx]
 kernel_rfl
end
theorem startB_0 (bad : List Int) (AB : Option Addr) (cB : Nat) (w : World) (hB : (Kd.int .i64).C w AB bad.length bad) (hl : bad.length ≤ 1000) :
  Calls Tryz.prog 10 #[.slice none 0 0, .slice AB bad.length cB, .int .i64 1] w fun e w' => ∃ vK, e = .returned (.agg (mca (startB [] bad 1) (.slice none 0 0) (.slice none 0 0) vK (.slice none 0 0))) ∧ Kd.N k24 36 w' w.heap.size (fun k => w.heap.size ≤ k) vK (keysL bad) ∧ Below w.heap.size w w' := startB_any [] none 0 bad AB cB 1 w hB hl
theorem acts_XF {w : World} {ad : Addr} {a : Ac} {v : Value} (h : ∀ j u, (acl a v)[j]? = some u → w.cell? (ad.add j) = some u) : (∀ j u, (scl a.X)[j]? = some u → w.cell? ((⟨ad.block, ad.off + 41, none⟩ : Addr).add j) = some u) ∧ ∀ j u, (fcl a.F)[j]? = some u → w.cell? ((⟨ad.block, ad.off + 1, none⟩ : Addr).add j) = some u := by
 have e : ∀ j, 0 < j → ad.add j = ⟨ad.block, ad.off + j, none⟩ := fun j hj => by unfold Addr.add; rw [if_neg (by omega)]
 refine ⟨fun j u hu => ?_, fun j u hu => ?_⟩
 ·rw [← e 41 (by omega), add_add_']
  exact h _ _ (acl_X a v j u hu)
 ·rw [← e 1 (by omega), add_add_']
  exact h _ _ (acl_F a v j u hu)
theorem refInK_any (l : List S24) (u : Int) (A : Option Addr) (c : Nat) (w : World) (hC : Kd.C k24 w A l.length l) :
  Calls Tryz.prog 14 #[.slice A l.length c, .agg #[.int .i64 1, .int .i64 u, .slice none 0 0]] w fun e w' => e = .returned (.bool (inL l (keyP u))) ∧ Below w.heap.size w w' := refIn_any l (keyP u) A none c 0 w hC (Kd.C_nil _ _)
def proofsL (l : List Ac) : List S24 := (l.filter fun a => isP a.X a.F).map fun a => proofT a.X a.F
theorem proofs_snoc {l : List Ac} {i : Nat} {a : Ac} (h : l[i]? = some a) : proofsL (l.take (i + 1)) = if isP a.X a.F = true then proofsL (l.take i) ++ [proofT a.X a.F] else proofsL (l.take i) := by
 unfold proofsL
 rw [take_snoc h, List.filter_append, List.map_append]
 cases hp : isP a.X a.F with
 | true => simp [hp]
 | false => simp [hp]
theorem proofs_len (l : List Ac) : (proofsL l).length ≤ l.length := by
 unfold proofsL
 rw [List.length_map]
 exact List.length_filter_le _ _
theorem known_are {bad : List Int} {l : List Ac} (hw : ∀ a ∈ l, wfS a.X ∧ wfF a.F) : ∀ t ∈ keysL bad ++ proofsL l, keyOrProof t := by
 intro t ht
 rcases List.mem_append.1 ht with ht | ht
 ·obtain ⟨n, _, rfl⟩ := List.mem_map.1 ht
  exact .inl ⟨n, rfl⟩
 ·obtain ⟨a, ha, rfl⟩ := List.mem_map.1 ht
  obtain ⟨h1, h2⟩ := List.mem_filter.1 ha
  exact .inr ⟨a.X, a.F, (hw a h1).1, (hw a h1).2, h2, rfl⟩
theorem known_size {bad : List Int} {l : List Ac} (hw : ∀ a ∈ l, wfS a.X ∧ wfF a.F) (hb : bad.length ≤ 1000) (hl : l.length ≤ 1000) : lsize (keysL bad ++ proofsL l) ≤ 1000000 := by
 refine Nat.le_trans (lsize_le _ 20 fun x hx => ?_) ?_
 ·rcases known_are hw x hx with ⟨n, rfl⟩ | ⟨y, g, h1, h2, h3, rfl⟩
  ·show tsize ⟨1, n, []⟩ ≤ 20
   rw [tsize_eq]
   simp [lsize]
  ·have := (proof_small h1 h2 h3).2.1
   omega
 ·have h1 : (keysL bad ++ proofsL l).length ≤ 2000 := by
   rw [List.length_append, keysL_len]
   have := proofs_len l
   omega
  omega
set_option maxHeartbeats 8000000 in
theorem forge_walk (bad : List Int) (AB : Option Addr) (cB : Nat) (l : List Ac) (A : Option Addr) (c : Nat) (x : Ses) (f : Frm) (w : World) (hB : (Kd.int .i64).C w AB bad.length bad) (hr : kA.C w A l.length l) (hw : ∀ a ∈ l, wfS a.X ∧ wfF a.F) (hx : wfS x) (hf : wfF f) :
  Calls Tryz.prog 5 #[.slice AB bad.length cB, .slice A l.length c, .agg (sca x), .agg (fca f)] w fun e w' => e = .returned (.bool true) ∧ Below w.heap.size w w' := by
 have CB := aq_ hB
 have CA := aq_ hr
 have WF := aq_ hw
 have HX := aq_ hx
 have HF := aq_ hf
 have HB := aq_ (Below.refl w.heap.size w)
 have LB := aq_ (Nat.le_refl w.heap.size)
 have hml : l.length ≤ 9223372036854775807 := hr.2.1
 clear hB hr hw hx hf
 go_enter Tryz.func5, Tryz.ntmps5
 go_upto_region 2 with (first
  | ((with_reducible refine box_Se (.tmp 2) (s := x) rfl rfl rfl ?_); intro g6 hg_ w1 hbox hb; replace HB := aq_ (HB.out.trans (Below.mono hb LB.out)); replace LB := aq_ (Nat.le_trans LB.out (Below.size hb)); have X6 := aq_ hbox; clear hg_ hbox hb)
  | ((with_reducible refine box_Fr (.tmp 3) (f := f) rfl rfl rfl ?_); intro g7 hg_ w1 hbox hb; replace HB := aq_ (HB.out.trans (Below.mono hb LB.out)); replace LB := aq_ (Nat.le_trans LB.out (Below.size hb)); replace X6 := aq_ (blk_below X6.out hb); have X7 := aq_ hbox; clear hg_ hbox hb)
  | ((go_at_call 6; (with_reducible refine (awakeF_any _).mono ?_)); rintro e w1 ⟨rfl, hb⟩; replace HB := aq_ (HB.out.trans (Below.mono hb LB.out)); replace LB := aq_ (Nat.le_trans LB.out (Below.size hb)); replace X6 := aq_ (blk_below X6.out hb); replace X7 := aq_ (blk_below X7.out hb); clear hb))
 cases q1 : decide (20 < (bad.length : Int))
 case true =>
  go_wp2
  go_ret
  exact ⟨rfl, HB.out⟩
 cases q2 : decide (15 < (l.length : Int))
 case true =>
  go_wp2
  go_ret
  exact ⟨rfl, HB.out⟩
 have hb20 : bad.length ≤ 20 := by simp at q1; omega
 have hl15 : l.length ≤ 15 := by simp at q2; omega
 go_upto_region 5 with (first
  | ((go_at_call 10; (with_reducible refine (startB_0 bad AB cB _ (Kd.C_below CB.out HB.out) (Nat.le_trans hb20 (by decide))).mono ?_)); rintro e w2 ⟨vK, rfl, hN, hb⟩; obtain ⟨AK, cK, rfl, _⟩ := Kd.N_reads hN; have BB0 := aq_ (LB.out); have NKS := aq_ hb.size; have NK := aq_ hN; have L60 := aq_ (blk_lt X6.out); have L70 := aq_ (blk_lt X7.out); replace HB := aq_ (HB.out.trans (Below.mono hb LB.out)); replace LB := aq_ (Nat.le_trans LB.out (Below.size hb)); replace X6 := aq_ (blk_below X6.out hb); replace X7 := aq_ (blk_below X7.out hb); clear hb hN)
  | (with_reducible refine field_Mk (.tmp 33) rfl rfl rfl ?_))
 obtain ⟨B0, hB0⟩ : ∃ B0, B0 = w1.heap.size := ⟨_, rfl⟩
 rw [← hB0] at NK L60 L70
 have L0 := aq_ (show B0 ≤ w2.heap.size by have := (show w1.heap.size ≤ w2.heap.size from NKS.out); omega)
 have BB := aq_ (show w.heap.size ≤ B0 by have := BB0.out; omega)
 clear hB0 NKS BB0
 go_wp2
 go_loopw [10, 11, 12, 13] (fun v10 v11 v12 v13 wr => ∃ (i : Nat) (AK : Option Addr) (cK : Nat), i ≤ l.length ∧ v11 = .int .i64 i ∧ v10 = .slice AK (keysL bad ++ proofsL (l.take i)).length cK ∧ Aside0 (Kd.N k24 36 wr B0 (fun k => B0 ≤ k) (.slice AK (keysL bad ++ proofsL (l.take i)).length cK) (keysL bad ++ proofsL (l.take i))) ∧ Aside0 (wr.heap[g6]? = some (.cells (sca x) 33 (0, 0))) ∧ Aside0 (wr.heap[g7]? = some (.cells (fca f) 31 (0, 0))) ∧ Aside0 (Below w.heap.size w wr) ∧ Aside0 (w.heap.size ≤ wr.heap.size) ∧ Aside0 (B0 ≤ wr.heap.size)) (fun v10 v11 v12 v13 _ => l.length - (intOf v11).toNat)
 case atStart => exact ⟨0, AK, cK, by omega, rfl, by simp [proofsL], ⟨by simpa [proofsL] using NK.out⟩, X6, X7, HB, LB, L0⟩
 case round =>
  clear NK X6 X7 HB LB L0
  obtain ⟨i, AK, cK, hi, rfl, rfl, NK, X6, X7, HB, LB, L0⟩ := hrel
  by_cases hlt : i < l.length
  ·have hd : decide ((i : Int) < l.length) = true := by simp; omega
   obtain ⟨a, ha⟩ : ∃ a, l[i]? = some a := ⟨_, List.getElem?_eq_getElem hlt⟩
   obtain ⟨ad, A2, c2, hA, hcs, _, _⟩ := at_A (Kd.C_below CA.out HB.out) i hlt a ha
   have WA := aq_ (WF.out a (List.mem_of_getElem? ha))
   obtain ⟨cX, cF⟩ := acts_XF hcs
   have HA := aq_ ha
   clear hcs ha
   subst hA
   go_wp2
   refine start_ (n := 17) (S := fun w' => (∀ j v, (scl a.X)[j]? = some v → w'.cell? ((⟨(ad.add (i * 83)).block, (ad.add (i * 83)).off + 41, none⟩ : Addr).add j) = some v) ∧ (∀ j v, (fcl a.F)[j]? = some v → w'.cell? ((⟨(ad.add (i * 83)).block, (ad.add (i * 83)).off + 1, none⟩ : Addr).add j) = some v)) (ds := [15]) #[false, false, false, false, false, false, false, false, false, false, false, false, false, false, false, false, false] (by kernel_rfl) rfl rfl ⟨(fun j v hv => cX j v hv), (fun j v hv => cF j v hv)⟩ (fun hHeld => ?_)
   refine pu_ 0 (some 42) ?_ (bt_ 17 1) rfl rfl (Or.inl ⟨by rfl, ?_⟩) ?_ ?_ ?_;rotate_left;(intro w';go_simp;with_reducible rfl);rotate_left;(simp only [pt_];rfl)
   refine pu_ 1 (some 43) ?_ (bt_ 17 3) rfl rfl (Or.inl ⟨by rfl, ?_⟩) ?_ ?_ ?_;rotate_left;(intro w';go_simp;with_reducible rfl);rotate_left;(simp only [pt_];rfl)
   refine pu_ 2 (some 44) ?_ (bt_ 17 7) rfl rfl (Or.inl ⟨by rfl, ?_⟩) ?_ ?_ ?_;rotate_left;(intro w';go_simp;with_reducible rfl);rotate_left;(simp only [pt_];rfl)
   refine pu_ 3 (some 45) ?_ (bt_ 17 15) rfl rfl (Or.inl ⟨by rfl, ?_⟩) ?_ ?_ ?_;rotate_left;(intro w';go_simp;with_reducible rfl);rotate_left;(simp only [pt_];rfl)
   refine pu_ 5 (some 47) ?_ (bt_ 17 47) rfl rfl (Or.inl ⟨by rfl, ?_⟩) ?_ ?_ ?_;rotate_left;(intro w';go_simp;with_reducible rfl);rotate_left;(simp only [pt_];rfl)
   refine pu_ 6 (some 48) ?_ (bt_ 17 111) rfl rfl (Or.inl ⟨by rfl, ?_⟩) ?_ ?_ ?_;rotate_left;(intro w';go_simp;with_reducible rfl);rotate_left;(simp only [pt_];rfl)
   refine pu_ 7 (some 49) ?_ (bt_ 17 239) rfl rfl (Or.inl ⟨by rfl, ?_⟩) ?_ ?_ ?_;rotate_left;(intro w';go_simp;with_reducible rfl);rotate_left;(simp only [pt_];rfl)
   refine pu_ 8 (some 50) ?_ (bt_ 17 495) rfl rfl (Or.inl ⟨by rfl, ?_⟩) ?_ ?_ ?_;rotate_left;(intro w';go_simp;with_reducible rfl);rotate_left;(simp only [pt_];rfl)
   refine ta_ 4 (some 46) ?_ (bt_ 17 511) rfl rfl (Or.inl ⟨by rfl, ?_⟩) hHeld ?_ ?_ ?_
   rotate_left
   ·rintro w' ⟨s0, s1⟩
    rw [exec_loadS (.tmp 45) (by rfl) (by rfl) s0]
   rotate_left
   ·simp only [pt_]
    rfl
   refine ta_ 9 (some 51) ?_ (bt_ 17 1023) rfl rfl (Or.inl ⟨by rfl, ?_⟩) hHeld ?_ ?_ ?_
   rotate_left
   ·rintro w' ⟨s0, s1⟩
    rw [exec_loadF (.tmp 50) (by rfl) (by rfl) s1]
   rotate_left
   ·simp only [pt_]
    rfl
   refine join_ (σ := Value × Nat) 2 (bt_ 17 32767) (fun s => [(52, .tuple #[.agg #[.int .i64 (proofT a.X a.F).f0, .int .i64 (proofT a.X a.F).f1, s.1], .bool (isP a.X a.F)]), (41, .tuple #[.agg #[.int .i64 (proofT a.X a.F).f0, .int .i64 (proofT a.X a.F).f1, s.1], .bool (isP a.X a.F)]), (53, .agg #[.int .i64 (proofT a.X a.F).f0, .int .i64 (proofT a.X a.F).f1, s.1]), (54, .bool (isP a.X a.F)), (12, .pointer (some ⟨s.2, 0, none⟩))]) (fun s w' => ForkF wr.drew s.1 s.2 (proofT a.X a.F).f2 w') ?_ ?_
   rotate_left
   ·intro hCont
    refine two_ (i := 10) (j := 14) (Ni := some 52) (Nj := some 12) (bt_ 17 2047) (bt_ 17 17407) rfl rfl rfl rfl (by kernel_rfl) (by decide) (by decide) (fun K hK => ?_) (fun K hK => ?_)
    ·skip
     refine goes_ Tryz.func18 (by kernel_rfl) rfl #[.agg (sca a.X), .agg (fca a.F)] (by rfl) rfl rfl (by simp only [List.map_toArray, List.map_cons, List.map_nil]; rfl) ?_
     with_reducible refine (proof_any a.X a.F _ WA.out.1 WA.out.2).mono ?_
     rintro e wq ⟨v2, rfl, hV, hb_⟩
     refine ⟨_, rfl, ?_⟩
     have VA := aq_ hV
     have BQ := aq_ hb_
     clear hV hb_
     refine hK.out _ _ ⟨(fun j v hv => cell_bel (w := wr.drew) (cX j v hv) BQ.out), (fun j v hv => cell_bel (w := wr.drew) (cF j v hv) BQ.out)⟩ (fun hHeld => ?_)
     clear hK K
     refine norm_ (a' := ?_) ?_ ?_
     rotate_left
     ·show Act.put _ (some 52) _ = _
      simp only [pt_]
      rfl
     refine pu_ 11 (some 41) ?_ (bt_ 17 4095) rfl rfl (Or.inl ⟨by rfl, ?_⟩) ?_ ?_ ?_;rotate_left;(intro w';go_simp;with_reducible rfl);rotate_left;(simp only [pt_];rfl)
     refine pu_ 12 (some 53) ?_ (bt_ 17 8191) rfl rfl (Or.inl ⟨by rfl, ?_⟩) ?_ ?_ ?_;rotate_left;(intro w';go_simp;with_reducible rfl);rotate_left;(simp only [pt_];rfl)
     refine pu_ 13 (some 54) ?_ (bt_ 17 16383) rfl rfl (Or.inl ⟨by rfl, ?_⟩) ?_ ?_ ?_;rotate_left;(intro w';go_simp;with_reducible rfl);rotate_left;(simp only [pt_];rfl)
     refine one_ (i := 14) (N := some 12) (bt_ 17 32767) rfl rfl (by kernel_rfl) (by decide) (fun K hK => ?_)
     refine value_ (w1 := ?_) (v := ?_) (by rfl) rfl ?_ ?_
     rotate_left 2
     ·go_simp
      constructor
      ·rfl
      ·rfl
     refine hK.out _ _ ⟨(fun j v hv => alloc_far (cell_bel (w := wr.drew) (cX j v hv) BQ.out) _), (fun j v hv => alloc_far (cell_bel (w := wr.drew) (cF j v hv) BQ.out) _)⟩ (fun hHeld => ?_)
     clear hK K
     refine norm_ (a' := ?_) ?_ ?_
     rotate_left
     ·show Act.put _ (some 12) _ = _
      simp only [pt_]
      rfl
     exact norm_ (by simp only [putAll, Act.put, List.setIfInBounds_toArray, List.set_cons_zero, List.set_cons_succ]) (hCont (v2, wq.heap.size) _ (forkF_1 VA.out BQ.out))
    ·skip
     refine value_ (w1 := ?_) (v := ?_) (by rfl) rfl ?_ ?_
     rotate_left 2
     ·go_simp
      constructor
      ·rfl
      ·rfl
     refine hK.out _ _ ⟨(fun j v hv => alloc_far (cX j v hv) _), (fun j v hv => alloc_far (cF j v hv) _)⟩ (fun hHeld => ?_)
     clear hK K
     refine norm_ (a' := ?_) ?_ ?_
     rotate_left
     ·show Act.put _ (some 12) _ = _
      simp only [pt_]
      rfl
     refine one_ (i := 10) (N := some 52) (bt_ 17 18431) rfl rfl (by kernel_rfl) (by decide) (fun K hK => ?_)
     refine goes_ Tryz.func18 (by kernel_rfl) rfl #[.agg (sca a.X), .agg (fca a.F)] (by rfl) rfl rfl (by simp only [List.map_toArray, List.map_cons, List.map_nil]; rfl) ?_
     with_reducible refine (proof_any a.X a.F _ WA.out.1 WA.out.2).mono ?_
     rintro e wq ⟨v2, rfl, hV, hb_⟩
     refine ⟨_, rfl, ?_⟩
     have VA := aq_ hV
     have BQ := aq_ hb_
     clear hV hb_
     refine hK.out _ _ ⟨(fun j v hv => cell_bel (w := (wr.drew.alloc (.cells #[.int .i64 0, .int .i64 0, .slice none 0 0] 36))) (alloc_far (cX j v hv) _) BQ.out), (fun j v hv => cell_bel (w := (wr.drew.alloc (.cells #[.int .i64 0, .int .i64 0, .slice none 0 0] 36))) (alloc_far (cF j v hv) _) BQ.out)⟩ (fun hHeld => ?_)
     clear hK K
     refine norm_ (a' := ?_) ?_ ?_
     rotate_left
     ·show Act.put _ (some 52) _ = _
      simp only [pt_]
      rfl
     refine pu_ 11 (some 41) ?_ (bt_ 17 20479) rfl rfl (Or.inl ⟨by rfl, ?_⟩) ?_ ?_ ?_;rotate_left;(intro w';go_simp;with_reducible rfl);rotate_left;(simp only [pt_];rfl)
     refine pu_ 12 (some 53) ?_ (bt_ 17 24575) rfl rfl (Or.inl ⟨by rfl, ?_⟩) ?_ ?_ ?_;rotate_left;(intro w';go_simp;with_reducible rfl);rotate_left;(simp only [pt_];rfl)
     refine pu_ 13 (some 54) ?_ (bt_ 17 32767) rfl rfl (Or.inl ⟨by rfl, ?_⟩) ?_ ?_ ?_;rotate_left;(intro w';go_simp;with_reducible rfl);rotate_left;(simp only [pt_];rfl)
     exact norm_ (by simp only [putAll, Act.put, List.setIfInBounds_toArray, List.set_cons_zero, List.set_cons_succ]) (hCont (v2, wr.heap.size) _ (forkF_2 (w := wr.drew) VA.out BQ.out))
   rintro ⟨v2, g12⟩ w5 hF
   have FF := aq_ hF
   have hHeld : ((∀ j v, (scl a.X)[j]? = some v → w5.cell? ((⟨(ad.add (i * 83)).block, (ad.add (i * 83)).off + 41, none⟩ : Addr).add j) = some v)) ∧ ((∀ j v, (fcl a.F)[j]? = some v → w5.cell? ((⟨(ad.add (i * 83)).block, (ad.add (i * 83)).off + 1, none⟩ : Addr).add j) = some v)) := ⟨fun j v hv => cell_bel (w := wr.drew) (cX j v hv) FF.out.below, fun j v hv => cell_bel (w := wr.drew) (cF j v hv) FF.out.below⟩
   obtain ⟨A12, c12, rfl⟩ := Kd.V_slice FF.out.row
   have TB := aq_ FF.out.box
   clear hF
   refine norm_ (a' := ?_) ?_ ?_
   rotate_left
   ·simp only [putAll, Act.put, List.setIfInBounds_toArray, List.set_cons_zero, List.set_cons_succ]
    rfl
   refine last_ (i := 15) (N := none) (bt_ 17 65535) rfl rfl (by kernel_rfl) (by decide) (fun K hK => ?_)
   refine store_Ts (by rfl) (.tmp 12) (.tmp 53) rfl rfl rfl rfl rfl TB.out ?_
   intro w6 hx1 hb1 hf1
   have BF := aq_ (FF.out.below.trans (hb1 _ FF.out.fresh))
   have XP := aq_ hx1
   have VP := aq_ (Kd.V_step FF.out.row fun k hk hl => hf1 k hk.2)
   clear hx1 hb1 hf1
   refine hK.out _ _ ?_
   clear hK K
   refine pu_ 16 (some 13) ?_ (bt_ 17 131071) rfl rfl (Or.inl ⟨by rfl, ?_⟩) ?_ ?_ ?_;rotate_left;(intro w';go_simp;with_reducible rfl);rotate_left;(simp only [pt_];rfl)
   refine done_ (by kernel_rfl) ?_
   replace HB := aq_ ((below_drew HB.out).trans (Below.mono BF.out (show w.heap.size ≤ wr.drew.heap.size from LB.out)))
   have NK6 := aq_ (Kd.N_below (Kd.N_below NK.out (below_drew (Below.refl _ _))) BF.out)
   have X66 := aq_ (blk_below (blk_drew X6.out) BF.out)
   have X76 := aq_ (blk_below (blk_drew X7.out) BF.out)
   have LB6 := aq_ (Nat.le_trans (show w.heap.size ≤ wr.drew.heap.size from LB.out) BF.out.size)
   have L06 := aq_ (Nat.le_trans (show B0 ≤ wr.drew.heap.size from L0.out) BF.out.size)
   have OW := aq_ (show ∀ k, wr.heap.size ≤ k → some k ≠ (Value.slice AK (keysL bad ++ proofsL (l.take i)).length cK).ownBlock from fun k hk e => by have := Kd.N_lt NK.out k e.symm; omega)
   have LD0 := aq_ (show B0 ≤ wr.drew.heap.size from L0.out)
   clear NK X6 X7 LB L0 FF TB
   cases hp : isP a.X a.F
   ·have HE := aq_ (show proofsL (l.take (i + 1)) = proofsL (l.take i) by rw [proofs_snoc HA.out, hp]; rfl)
    go_wp2
    go_roundw
    case rel => exact ⟨i + 1, AK, cK, by omega, by go_num, by rw [HE.out], ⟨by rw [HE.out]; exact NK6.out⟩, X66, X76, HB, LB6, L06⟩
    case measure => simp [intOf]; omega
   ·have HE := aq_ (show keysL bad ++ proofsL (l.take (i + 1)) = (keysL bad ++ proofsL (l.take i)) ++ [proofT a.X a.F] by rw [proofs_snoc HA.out, hp, if_pos rfl, List.append_assoc])
    obtain ⟨⟨p0, p1, p2⟩, _⟩ := cells3 XP.out
    have hcL := aq_ (show (keysL bad ++ proofsL (l.take i)).length ≤ 2000 by rw [List.length_append, keysL_len]; have := proofs_len (l.take i); rw [List.length_take] at this; omega)
    obtain ⟨A_, c_, hV_, hc_, hF_⟩ := VP.out
    cases hV_
    have HCC := aq_ hc_
    have HFF := aq_ hF_
    clear hc_ hF_
    go_wp2_with ((with_reducible refine gate_builtin (b := .append) (xs := #[.tmp 56, .tmp 58]) rfl ?_); at_builtin; (refine Kd.N_append k24 (w0 := w6) B0 rfl (.tmp 56) (.tmp 58) 34 36 (.agg #[.int .i64 0, .int .i64 0, .slice none 0 0]) 40 rfl Tryz.underlying34 info24 rfl (by decide) (by decide) (.slice AK (keysL bad ++ proofsL (l.take i)).length cK) (keysL bad ++ proofsL (l.take i)) (proofT a.X a.F) [.int .i64 (proofT a.X a.F).f0, .int .i64 (proofT a.X a.F).f1, .slice A12 (proofT a.X a.F).f2.length c12] (fun k => B0 ≤ k) (fun k => wr.drew.heap.size ≤ k ∧ k ≠ g12) rfl rfl (k24_mkF _ _ (proofT a.X a.F) HCC.out HFF.out) (fun k hk => ⟨Nat.le_trans LD0.out hk.1, OW.out k hk.1⟩) (fun k hk => Nat.le_trans L06.out hk) NK6.out (Below.refl _ _) L06.out (by have := hcL.out; omega) ?_); intro v1 w7 ho hb hg hat; obtain ⟨A7, c7, rfl, _⟩ := Kd.N_reads ho; have NK7 := aq_ ho; have HB7 := aq_ (HB.out.trans (Below.mono hb BB.out)); have LB7 := aq_ (Nat.le_trans LB6.out hb.size); have L07 := aq_ (Nat.le_trans L06.out hb.size); have X67 := aq_ ((hb.block g6 L60.out).trans X66.out); have X77 := aq_ ((hb.block g7 L70.out).trans X76.out); clear ho hb hg hat)
    go_roundw
    case rel => exact ⟨i + 1, A7, c7, by omega, by go_num, (by rw [HE.out]; simp [Nat.add_assoc]), ⟨by rw [HE.out]; exact NK7.out⟩, X67, X77, HB7, LB7, L07⟩
    case measure => simp [intOf]; omega
  ·obtain rfl : i = l.length := by omega
   have hd : decide ((l.length : Int) < l.length) = false := by simp
   rw [List.take_length] at NK
   have HKL := aq_ (known_are (bad := bad) WF.out)
   have HSZ := aq_ (known_size (bad := bad) WF.out (by omega) (by omega))
   obtain ⟨KL, hKL⟩ : ∃ KL, keysL bad ++ proofsL l = KL := ⟨_, rfl⟩
   rw [hKL] at NK HKL HSZ
   rw [show keysL bad ++ proofsL (l.take l.length) = KL by rw [List.take_length]; exact hKL]
   clear hKL
   have HC := aq_ (Kd.N_reads' NK.out).2.2
   have HCC := aq_ (Kd.N_reads' NK.out).2.1
   have HBK := aq_ (Below.refl wr.heap.size wr)
   have LBK := aq_ (Nat.le_refl wr.heap.size)
   clear NK
   cases hp : isP x f
   ·have HP := aq_ hp
    go_upto_region 12 with (first
     | (with_reducible refine load_S (.tmp 6) rfl rfl (p := ⟨g6, 0, none⟩) rfl (cells_box X6.out) ?_)
     | (with_reducible refine load_F (.tmp 7) rfl rfl (p := ⟨g7, 0, none⟩) rfl (cells_boxF X7.out) ?_)
     | ((go_at_call 18; (with_reducible refine (proof_any x f _ HX.out HF.out).mono ?_)); rw [HP.out]; rintro e w7 ⟨v2, rfl, hV, hb⟩; obtain ⟨Ap, cp, rfl⟩ := Kd.V_slice hV; replace HB := aq_ (HB.out.trans (Below.mono hb LB.out)); replace LB := aq_ (Nat.le_trans LB.out hb.size); clear hb hV)
     | ((with_reducible refine alloc_Te rfl rfl ?_); intro gt_ hgt w8 hbox hb; have ALB := aq_ hb; have ALG := aq_ hgt; have TB := aq_ hbox; clear hgt hbox hb)
     | ((with_reducible refine store_Te2 (.tmp 14) (.tmp 64) rfl rfl rfl rfl rfl rfl TB.out ?_); intro w9 hx1 hs1 hb1 hf1; have hbt := ALB.out.trans (hb1 _ (Nat.le_of_eq ALG.out.symm)); replace HB := aq_ (HB.out.trans (Below.mono hbt LB.out)); clear hx1 hs1 hb1 hf1 hbt ALB ALG TB))
    go_wp2
    go_ret
    exact ⟨rfl, HB.out⟩
   have HP := aq_ hp
   go_upto_region 12 with (first
    | (with_reducible refine load_S (.tmp 6) rfl rfl (p := ⟨g6, 0, none⟩) rfl (cells_box X6.out) ?_)
    | (with_reducible refine load_F (.tmp 7) rfl rfl (p := ⟨g7, 0, none⟩) rfl (cells_boxF X7.out) ?_)
    | ((go_at_call 18; (with_reducible refine (proof_any x f _ HX.out HF.out).mono ?_)); rw [HP.out]; rintro e w7 ⟨v2, rfl, hV, hb⟩; obtain ⟨Ap, cp, rfl⟩ := Kd.V_slice hV; replace HB := aq_ (HB.out.trans (Below.mono hb LB.out)); replace LB := aq_ (Nat.le_trans LB.out hb.size); have TC := aq_ (told_V hV); replace X6 := aq_ (blk_below X6.out hb); replace HC := aq_ (Kd.C_below HC.out hb); clear hb hV)
    | ((with_reducible refine alloc_Te rfl rfl ?_); intro g14 hgt w8 hbox hb; have ALB := aq_ hb; have ALG := aq_ hgt; have TB := aq_ hbox; clear hgt hbox hb)
    | ((with_reducible refine store_Te2 (.tmp 14) (.tmp 64) rfl rfl rfl rfl rfl rfl TB.out ?_); intro w9 hx1 hs1 hb1 hf1; have hbt := ALB.out.trans (hb1 _ (Nat.le_of_eq ALG.out.symm)); replace HB := aq_ (HB.out.trans (Below.mono hbt LB.out)); replace LB := aq_ (Nat.le_trans LB.out hbt.size); replace TC := aq_ (told_belowG TC.out hbt); replace X6 := aq_ (blk_below X6.out hbt); replace HC := aq_ (Kd.C_below HC.out hbt); have X14 := aq_ hx1; clear hx1 hs1 hb1 hf1 hbt ALB ALG TB))
   cases hm : mayL KL
   ·have HM := aq_ hm
    go_wp2_with ((go_at_call 19; (with_reducible refine (knowMay_any KL AK cK _ HC.out HCC.out).mono ?_)); rw [HM.out]; rintro e w10 ⟨rfl, hb⟩; replace HB := aq_ (HB.out.trans (Below.mono hb LB.out)); clear hb)
    go_ret
    exact ⟨rfl, HB.out⟩
   have HM := aq_ hm
   have HMK := aq_ (makes_proof HKL.out hm HX.out HF.out hp)
   obtain ⟨pp, hpp⟩ : ∃ pp, proofT x f = pp := ⟨_, rfl⟩
   have HTS := aq_ (show tsize pp ≤ 1000000 by rw [← hpp]; have := (proof_small HX.out HF.out hp).2.1; omega)
   rw [hpp] at HMK TC X14
   rw [hpp]
   clear hpp hm hp
   cases e1 : inL KL pp <;> cases e2 : inL KL (keyP x.user)
   all_goals
    have E1 := aq_ e1
    have E2 := aq_ e2
    have E3 := aq_ (HMK.out.trans (by rw [e1, e2]))
    clear e1 e2
    obtain ⟨⟨p0, p1, p2⟩, _⟩ := cells3 X14.out
    have x0 := (cellsS X6.out).1
    go_wp2_with (first
     | ((go_at_call 19; (with_reducible refine (knowMay_any KL AK cK _ HC.out HCC.out).mono ?_)); rw [HM.out]; rintro e w10 ⟨rfl, hb⟩; clear p0 p1 p2 x0; replace HB := aq_ (HB.out.trans (Below.mono hb LB.out)); replace LB := aq_ (Nat.le_trans LB.out (Below.size hb)); replace TC := aq_ (told_belowG TC.out hb); replace X6 := aq_ (blk_below X6.out hb); replace HC := aq_ (Kd.C_below HC.out hb); replace X14 := aq_ (blk_below X14.out hb); obtain ⟨⟨p0, p1, p2⟩, _⟩ := cells3 X14.out; have x0 := (cellsS X6.out).1; clear hb)
     | ((go_at_call 14; (with_reducible refine (refIn_any KL pp AK Ap cK cp _ HC.out (told_C' TC.out).2.2).mono ?_)); rw [E1.out]; rintro e w11 ⟨rfl, hb⟩; clear p0 p1 p2 x0; replace HB := aq_ (HB.out.trans (Below.mono hb LB.out)); replace LB := aq_ (Nat.le_trans LB.out (Below.size hb)); replace TC := aq_ (told_belowG TC.out hb); replace X6 := aq_ (blk_below X6.out hb); replace HC := aq_ (Kd.C_below HC.out hb); replace X14 := aq_ (blk_below X14.out hb); obtain ⟨⟨p0, p1, p2⟩, _⟩ := cells3 X14.out; have x0 := (cellsS X6.out).1; clear hb)
     | ((go_at_call 15; (with_reducible refine (keyL_any x.user _).mono ?_)); rintro e w12 ⟨rfl, hb⟩; clear p0 p1 p2 x0; replace HB := aq_ (HB.out.trans (Below.mono hb LB.out)); replace LB := aq_ (Nat.le_trans LB.out (Below.size hb)); replace TC := aq_ (told_belowG TC.out hb); replace X6 := aq_ (blk_below X6.out hb); replace HC := aq_ (Kd.C_below HC.out hb); replace X14 := aq_ (blk_below X14.out hb); obtain ⟨⟨p0, p1, p2⟩, _⟩ := cells3 X14.out; have x0 := (cellsS X6.out).1; clear hb)
     | ((go_at_call 14; (with_reducible refine (refInK_any KL x.user AK cK _ HC.out).mono ?_)); rw [E2.out]; rintro e w13 ⟨rfl, hb⟩; clear p0 p1 p2 x0; replace HB := aq_ (HB.out.trans (Below.mono hb LB.out)); replace LB := aq_ (Nat.le_trans LB.out (Below.size hb)); replace TC := aq_ (told_belowG TC.out hb); replace X6 := aq_ (blk_below X6.out hb); replace HC := aq_ (Kd.C_below HC.out hb); replace X14 := aq_ (blk_below X14.out hb); obtain ⟨⟨p0, p1, p2⟩, _⟩ := cells3 X14.out; have x0 := (cellsS X6.out).1; clear hb)
     | ((go_at_call 11; (with_reducible refine (makes_any KL pp AK Ap cK cp _ HSZ.out HTS.out HC.out HCC.out (told_C' TC.out).2.2 (told_C' TC.out).2.1).mono ?_)); rw [E3.out]; rintro e w14 ⟨rfl, hb⟩; clear p0 p1 p2 x0; replace HB := aq_ (HB.out.trans (Below.mono hb LB.out)); replace LB := aq_ (Nat.le_trans LB.out (Below.size hb)); replace TC := aq_ (told_belowG TC.out hb); replace X6 := aq_ (blk_below X6.out hb); replace HC := aq_ (Kd.C_below HC.out hb); replace X14 := aq_ (blk_below X14.out hb); obtain ⟨⟨p0, p1, p2⟩, _⟩ := cells3 X14.out; have x0 := (cellsS X6.out).1; clear hb))
    go_ret
    exact ⟨rfl, HB.out⟩
theorem openT : Opens Tryz.prog 36 k24 (fun _ => True) := by
 intro n
 induction n using Nat.strongRecOn with | _ n ih =>
 intro H enc w base spare held cs x h
 obtain ⟨xs, m, rfl, rfl, hl, hxl, hf⟩ := DataW.trod_struct Tryz.underlying36 h
 obtain ⟨a0, K0, g0⟩ := opens_field hxl hf (i := 0) rfl ((opens_int (k := .i64) Tryz.underlying3) m)
 obtain ⟨a1, K1, g1⟩ := opens_field hxl hf (i := 1) rfl ((opens_int (k := .i64) Tryz.underlying3) m)
 have hs : OpensAt Tryz.prog m 34 (Kd.slice 36 k24) (fun l => l.length ≤ maxLen ∧ ∀ x ∈ l, True) := by
  cases m with
  | zero => intro H enc w base spare held cs x h; simp [DataW.trod] at h
  | succ m => exact opens_slice m Tryz.underlying34 (by kernel_rfl) (ih m (by omega))
 obtain ⟨a2, K2, g2⟩ := opens_field hxl hf (i := 2) rfl hs
 have e24_ : Tryz.prog.cellsOf 36 = 3 := by kernel_rfl
 rw [e24_] at hl
 have e3 : Tryz.prog.cellsOf 3 = 1 := by kernel_rfl
 have e22 : Tryz.prog.cellsOf 34 = 1 := by kernel_rfl
 have J0 : ((Kd.int .i64)).K w a0 ((cs.drop 0).take 1) := by have q : ((Kd.int .i64)).K w a0 ((cs.drop 0).take (Tryz.prog.cellsOf 3)) := K0; rw [e3] at q; exact q
 have J1 : ((Kd.int .i64)).K w a1 ((cs.drop 1).take 1) := by have q : ((Kd.int .i64)).K w a1 ((cs.drop 1).take (Tryz.prog.cellsOf 3)) := K1; rw [e3] at q; exact q
 have J2 : ((Kd.slice 36 k24)).K w a2 ((cs.drop 2).take 1) := by have q : ((Kd.slice 36 k24)).K w a2 ((cs.drop 2).take (Tryz.prog.cellsOf 34)) := K2; rw [e22] at q; exact q
 obtain ⟨A_, c_, q2, l_, C_⟩ := J2
 have q0 : (cs.drop 0).take 1 = [.int .i64 a0] := J0
 have q1 : (cs.drop 1).take 1 = [.int .i64 a1] := J1
 have e : cs = [.int .i64 a0, .int .i64 a1, .slice A_ a2.length c_] := by
  obtain ⟨y0, y1, y2, rfl⟩ : ∃ y0 y1 y2 : Value, cs = [y0, y1, y2] := by
   match cs, hl with
   | [y0, y1, y2], _ => exact ⟨_, _, _, rfl⟩
  simp at q0 q1 q2
  subst q0 q1 q2
  rfl
 subst e
 exact ⟨⟨a0, a1, a2⟩, k24_mk w ⟨a0, a1, a2⟩ l_ C_, trivial⟩
def GA (a : Ac) : Prop := GS a.X ∧ GF a.F
theorem openA : Opens Tryz.prog 38 kA GA := by
 intro n H enc w base spare held cs x h
 obtain ⟨xs, m, rfl, rfl, hl, hxl, hf⟩ := DataW.trod_struct Tryz.underlying38 h
 obtain ⟨a0, K0, g0⟩ := opens_field hxl hf (i := 0) rfl ((opens_int (k := .i64) Tryz.underlying3) m)
 obtain ⟨a1, K1, g1⟩ := opens_field hxl hf (i := 1) rfl (openF m)
 obtain ⟨a2, K2, g2⟩ := opens_field hxl hf (i := 2) rfl (openS m)
 obtain ⟨a3, K3, g3⟩ := opens_field hxl hf (i := 3) rfl (openT m)
 have e0 : Tryz.prog.cellsOf 38 = 83 := by kernel_rfl
 have e1 : Tryz.prog.cellsOf 3 = 1 := by kernel_rfl
 have e2 : Tryz.prog.cellsOf 31 = 40 := by kernel_rfl
 have e3 : Tryz.prog.cellsOf 33 = 39 := by kernel_rfl
 have e4 : Tryz.prog.cellsOf 36 = 3 := by kernel_rfl
 rw [e0] at hl
 have J0 : (Kd.int .i64).K w a0 ((cs.drop 0).take 1) := by have q : (Kd.int .i64).K w a0 ((cs.drop 0).take (Tryz.prog.cellsOf 3)) := K0; rw [e1] at q; exact q
 have J1 : kF.K w a1 ((cs.drop 1).take 40) := by have q : kF.K w a1 ((cs.drop 1).take (Tryz.prog.cellsOf 31)) := K1; rw [e2] at q; exact q
 have J2 : kS.K w a2 ((cs.drop 41).take 39) := by have q : kS.K w a2 ((cs.drop 41).take (Tryz.prog.cellsOf 33)) := K2; rw [e3] at q; exact q
 have J3 : k24.K w a3 ((cs.drop 80).take 3) := by have q : k24.K w a3 ((cs.drop 80).take (Tryz.prog.cellsOf 36)) := K3; rw [e4] at q; exact q
 rw [List.take_of_length_le (by rw [List.length_drop]; omega)] at J3
 refine ⟨⟨a0, a1, a2, a3⟩, ?_, g2, g1⟩
 show (Kd.pair (Kd.int .i64) (Kd.pair kF (Kd.pair kS k24))).K w (a0, a1, a2, a3) cs
 refine pair_K 1 (by rw [List.drop_zero] at J0; exact J0) (pair_K 40 J1 (pair_K 39 (by rw [List.drop_drop]; exact J2) (by rw [List.drop_drop, List.drop_drop]; exact J3)))
theorem openI : Opens Tryz.prog 3 (Kd.int .i64) (fun n => (Lit.int .i64 n).wf = true) := opens_int (k := .i64) Tryz.underlying3
theorem fwfS_of {x : Ses} (h : GS x) : wfS x := ⟨(wf_u h.2.2.1).1, (wf_u h.2.2.2.1).1⟩
theorem fwfF_of {f : Frm} (h : GF f) : wfF f := ⟨wf_u h.2.2.1, wf_u h.2.2.2.1, wf_u h.2.2.2.2.2.1⟩
theorem symForge_any (bad : List Int) (AB : Option Addr) (cB : Nat) (l : List Ac) (A : Option Addr) (c : Nat) (x : Ses) (f : Frm) (w : World) (hB : (Kd.int .i64).C w AB bad.length bad) (_hcB : bad.length ≤ cB) (_gB : bad.length ≤ maxLen ∧ ∀ n ∈ bad, (Lit.int .i64 n).wf = true) (hr : kA.C w A l.length l) (_hc : l.length ≤ c) (gL : l.length ≤ maxLen ∧ ∀ x ∈ l, GA x) (gx : GS x) (gf : GF f) :
  Calls Tryz.prog 5 #[.slice AB bad.length cB, .slice A l.length c, .agg (sca x), .agg (fca f)] w fun e w' => e = .returned (.bool true) ∧ Below w.heap.size w w' :=
 forge_walk bad AB cB l A c x f w hB hr (fun a ha => ⟨fwfS_of (gL.2 a ha).1, fwfF_of (gL.2 a ha).2⟩) (fwfS_of gx) (fwfF_of gf)
end Go.Proofs.YtdinphnljokigaaGreat.P
end
