/- What LawSymProof rests on, part 9: several texts put together. -/
import Derived.RangeFuncNested
import Derived.RangeFuncBound
import Derived.RangeFuncCalls
import Derived.RangeFuncLeaves
import Derived.RangeFuncBox
import Derived.Shelf.Abstract
import Derived.Shelf.RegionOpen
import Derived.RegionIn
import Derived.OwnWalkIn
import Derived.TacticsInMore
import Derived.LoopNIn
import Derived.LoopIn
import Derived.Test.YtdinphnljokigaaQ8
import Derived.Test.YtdinphnljokigaaQ2
set_option linter.unusedVariables false
set_option linter.unnecessarySimpa false
set_option linter.unusedSimpArgs false
set_option maxRecDepth 100000
section
namespace Go.Proofs.Ytdinphnljokigaa.P
open Go.RowKit Go.Shelf Go.Proofs.YtdinphnljokigaaW.PrintWords Go.Proofs.YtdinphnljokigaaW.PrintLast Go.Proofs.YtdinphnljokigaaW.PrintMore
attribute [local go_sem] Oper.semAt_some
theorem rowR_no' {l : List Int} (h : okRow l = false) : rowR l = z24 := by unfold rowR; rw [h]; rfl
theorem rowR_yes' {l : List Int} (h : okRow l = true) : rowR l = rowT l := by unfold rowR; rw [h]; rfl
set_option maxHeartbeats 1000000 in
set_option maxRecDepth 100000 in
/-- The ways that tell none. -/
theorem row_no (l : List Int) (A : Option Addr) (c : Nat) (W : World) (HC : Aside0 (Kd.C (Kd.int .i64) W A l.length l)) (h : l = [] ∨ (l ≠ [] ∧ 12 < l.length) ∨ (l ≠ [] ∧ l.length ≤ 12 ∧ ∃ x ∈ l, x < 0)) :
  Calls Try.prog 40 #[.slice A l.length c] W fun e w' => e = .returned (.tuple #[.agg #[.int .i64 0, .int .i64 0, .slice none 0 0], .bool false]) ∧ Below W.heap.size W w' := by
 have HB := aq_ (below_alloc (Below.refl W.heap.size W) (.cells #[.int .i64 0, .int .i64 0, .slice none 0 0] 32 (0, 0)))
 have HN := aq_ (blk_new W (.cells #[.int .i64 0, .int .i64 0, .slice none 0 0] 32 (0, 0)))
 rcases h with rfl | ⟨h0, h1⟩ | ⟨h0, h1, h2⟩
 ·go_enter Try.func40, Try.ntmps40
  go_wp2
  exact bodyPost_ret (results_ct rfl _ _ W.heap.size 32 #[.int .i64 0, .int .i64 0, .slice none 0 0] (0, 0) _ rfl HN.out Try.underlying32 rfl (by kernel_rfl)) rfl ⟨rfl, HB.out⟩
 ·have e0 : ((l.length : Int) == 0) = false := by simpa using h0
  have e1 : (12 : Int) < (l.length : Int) := by omega
  clear h0
  go_enter Try.func40, Try.ntmps40
  go_wp2
  exact bodyPost_ret (results_ct rfl _ _ W.heap.size 32 #[.int .i64 0, .int .i64 0, .slice none 0 0] (0, 0) _ rfl HN.out Try.underlying32 rfl (by kernel_rfl)) rfl ⟨rfl, HB.out⟩
 ·have e0 : ((l.length : Int) == 0) = false := by simpa using h0
  have e1 : (l.length : Int) ≤ 12 := by omega
  have HL := aq_ h0
  have HX := aq_ h2
  have HC2 := aq_ (Kd.C_below HC.out HB.out)
  clear h0 h2
  go_enter Try.func40, Try.ntmps40
  go_wp2_with (first | (go_at_call 65; refine (min_calls l HL.out A c _ HC2).mono ?_; rintro e w1 ⟨⟨mm, rfl, hmm⟩, rfl⟩; have hmm0 : mm < 0 := hmm.2 HX.out; clear hmm))
  exact bodyPost_ret (results_ct rfl _ _ W.heap.size 32 #[.int .i64 0, .int .i64 0, .slice none 0 0] (0, 0) _ rfl HN.out Try.underlying32 rfl (by kernel_rfl)) rfl ⟨rfl, HB.out⟩
set_option maxRecDepth 100000 in
set_option maxHeartbeats 6400000 in
theorem row_yes_in (l : List Int) (hl : l ≠ []) (h12 : l.length ≤ 12) (hpos : ∀ x ∈ l, 0 ≤ x) (A : Option Addr) (c : Nat) (w : World) (hr0 : Kd.C (Kd.int .i64) w A l.length l) (hc : l.length ≤ c) :
  CallsIn Fence.wide 5 Try.prog 40 #[.slice A l.length c] w fun e W' => ∃ v2_ : Value, e = .returned (.tuple #[.agg #[.int .i64 (rowT l).f0, .int .i64 (rowT l).f1, v2_], .bool true]) ∧ Kd.V k24 32 W' w.heap.size (fun k_ => (w.heap.size ≤ k_)) v2_ (rowT l).f2 ∧ Below w.heap.size w W' := by
 have t26 : Fence.wide.fn 65 := trivial
 have t27 : Fence.wide.fn 66 := trivial
 have t28 : Fence.wide.fn 67 := trivial
 have t38 : Fence.wide.fn 83 := trivial
 have hmx : Try.prog.follows .mixedOrders = true := by kernel_rfl
 have hp : 1 ≤ l.length := List.length_pos_iff.mpr hl
 obtain ⟨ad, e, hx⟩ := Kd.at_int hr0 ((l.length : Int) - 1) (by omega) (by omega)
 subst e
 obtain ⟨m, hm⟩ : ∃ m : Nat, m + 1 = l.length := ⟨l.length - 1, by omega⟩
 rw [show ((l.length : Int) - 1) = (m : Int) by omega, Int.toNat_natCast] at hx
 obtain ⟨x, hxx⟩ : ∃ x, x = rd l (m : Int) := ⟨_, rfl⟩
 rw [← hxx] at hx
 have HC0 := aq_ (Kd.C_below hr0 (below_alloc (Below.refl _ w) (.cells #[.int .i64 0, .int .i64 0, .slice none 0 0] 32 (0, 0))))
 have HPos := aq_ hpos
 have HL := aq_ hl
 have e0 : ((l.length : Int) == 0) = false := by simp; exact hl
 have e1 : (l.length : Int) ≤ 12 := by omega
 have e2 : (l.length : Int) - 1 = (m : Int) := by omega
 have e3 : (m : Int) < (l.length : Int) := by omega
 have hsl := sl_hi ad l.length c m (by omega)
 clear hpos hl
 refine callsIn_of_wp_marks Try.func40 rfl trivial ?_ rfl
 simp only [Try.ntmps40, List.size_toArray, List.length_cons, List.length_nil, Nat.reduceAdd, Nat.reduceSub, Array.replicate_succ, Array.replicate_zero, List.push_toArray, List.append_toArray, List.nil_append, List.cons_append]
 gi_wp2_with (first | (gi_at_call 65; refine (callsIn_wide.2 (min_calls l HL.out (some ad) c _ HC0)).mono ?_; rintro e w1 ⟨⟨mm, rfl, hmm⟩, rfl⟩; have hmm0 : ¬ mm < 0 := (fun h => by obtain ⟨z, hz, hz0⟩ := hmm.1 h; have := HPos.out z hz; omega); clear hmm))
 obtain ⟨W0, hW0⟩ : ∃ W0, (w.alloc (.cells #[.int .i64 0, .int .i64 0, .slice none 0 0] 32)).alloc (.cells #[.func (.func 66) #[] #[]] 69) = W0 := ⟨_, rfl⟩
 have hs1 : (w.alloc (.cells #[.int .i64 0, .int .i64 0, .slice none 0 0] 32)).heap.size = w.heap.size + 1 := Array.size_push _
 have hs0 : W0.heap.size = w.heap.size + 2 := by rw [← hW0]; exact (Array.size_push _).trans (by rw [hs1])
 have b2 : W0.heap[w.heap.size]? = some (.cells #[.int .i64 0, .int .i64 0, .slice none 0 0] 32 (0, 0)) := by rw [← hW0]; exact blk_alloc (blk_new w _) _
 have b4 : W0.heap[w.heap.size + 1]? = some (.cells #[.func (.func 66) #[] #[]] 69 (0, 0)) := by
  have z := blk_new (w.alloc (.cells #[.int .i64 0, .int .i64 0, .slice none 0 0] 32)) (.cells #[.func (.func 66) #[] #[]] 69)
  rw [hs1, hW0] at z
  exact z
 have HB0 := aq_ (show Below w.heap.size w W0 by rw [← hW0]; exact below_alloc (below_alloc (Below.refl _ w) _) _)
 have cx : W0.cell? (ad.add m) = some (.int .i64 x) := by rw [← hW0]; exact alloc_far (alloc_far hx _) _
 have c4 : W0.cell? ⟨w.heap.size + 1, 0, none⟩ = some (.func (.func 66) #[] #[]) := blk_cell b4 0
 have hw : IntKind.i64.wrap (m : Int) = m := by rw [IntKind.wrap_i64]; omega
 have cx1 := alloc_far cx (.cells #[.int .i64 0, .int .i64 0, .slice none 0 0] 32 (0, 0))
 have c41 := alloc_far c4 (.cells #[.int .i64 0, .int .i64 0, .slice none 0 0] 32 (0, 0))
 rw [hW0]
 have B2 := aq_ b2
 have B4 := aq_ b4
 clear hW0 b2 b4 hs1 hx
 have HX := aq_ hxx
 clear hxx
 obtain ⟨Post, hPost⟩ : ∃ Post : Act → World → Prop, Post = fun a' W => ∃ (B : Nat) (u8 u9 u10 u11 u12 u13 u14 u15 u16 u17 u18 u19 u20 u21 u22 u23 u24 u25 u26 u27 u28 u29 : Value), (B = w.heap.size + 2 ∨ B = w.heap.size + 3) ∧ a' = { tmps := #[.slice (some ad) l.length c, undef, .pointer (some ⟨w.heap.size, 0, none⟩), .bool false, .pointer (some ⟨w.heap.size + 1, 0, none⟩), .pointer (some ⟨B, 0, none⟩), undef, undef, u8, u9, u10, u11, u12, u13, u14, u15, u16, u17, u18, u19, u20, u21, u22, u23, u24, u25, u26, u27, u28, u29, undef, undef, undef, undef, undef, undef, undef, undef, undef, undef, undef, undef, undef, undef, undef], defers := [] } ∧ W = ((W0.alloc (.cells #[.int .i64 0, .int .i64 x, .slice none 0 0] 32 (0, 0))).alloc (.cells #[.int .i64 0, .int .i64 x, .slice none 0 0] 32 (0, 0))).drew := ⟨_, rfl⟩
 have HP := aq_ hPost
 clear hPost
 refine shut_post (Post := Post) ?_ ?_
 ·gi_region_with_o (gi_at_call 66; refine (word_in Fence.wide _ t27 rfl _ _).mono ?_; rintro e w' ⟨rfl, rfl⟩)
  all_goals (show Post _ _; rw [HP.out]; exact ⟨_, _, _, _, _, _, _, _, _, _, _, _, _, _, _, _, _, _, _, _, _, _, _, by omega, rfl, rfl⟩)
 rw [HP.out]
 rintro a' W5 ⟨B, u8, u9, u10, u11, u12, u13, u14, u15, u16, u17, u18, u19, u20, u21, u22, u23, u24, u25, u26, u27, u28, u29, hB5, rfl, hW5⟩
 have hsz1 : (W0.alloc (.cells #[.int .i64 0, .int .i64 x, .slice none 0 0] 32 (0, 0))).heap.size = w.heap.size + 3 := (Array.size_push _).trans (by rw [hs0])
 have hs5 : W5.heap.size = w.heap.size + 4 := by rw [hW5]; exact (Array.size_push _).trans (by rw [hsz1])
 have b2 : W5.heap[w.heap.size]? = some (.cells #[.int .i64 0, .int .i64 0, .slice none 0 0] 32 (0, 0)) := by rw [hW5]; exact blk_alloc (blk_alloc B2.out _) _
 have b4 : W5.heap[w.heap.size + 1]? = some (.cells #[.func (.func 66) #[] #[]] 69 (0, 0)) := by rw [hW5]; exact blk_alloc (blk_alloc B4.out _) _
 have b5 : W5.heap[B]? = some (.cells #[.int .i64 0, .int .i64 x, .slice none 0 0] 32 (0, 0)) := by
  rw [hW5]
  have z1 := blk_new W0 (.cells #[.int .i64 0, .int .i64 x, .slice none 0 0] 32 (0, 0))
  have z2 := blk_new (W0.alloc (.cells #[.int .i64 0, .int .i64 x, .slice none 0 0] 32 (0, 0))) (.cells #[.int .i64 0, .int .i64 x, .slice none 0 0] 32 (0, 0))
  rw [hs0] at z1
  rw [hsz1] at z2
  rcases hB5 with rfl | rfl
  ·exact blk_alloc z1 _
  ·exact z2
 have hb5 : Below w.heap.size w W5 := by rw [hW5]; exact below_drew (below_alloc (below_alloc HB0.out _) _)
 clear hW5 cx cx1 c4 c41 hsz1
 gi_wp2_with (first | (gi_at_call 67; refine (bw_in Fence.wide _ t28 rfl (some ad) m c W5).mono ?_; rintro e w6_ ⟨rfl, hw6_⟩))
 clear hw6_
 obtain ⟨w6, hw6⟩ : ∃ w6, w6 = W5.alloc (.cells #[.slice (some ad) m c] 68 (0, 0)) := ⟨_, rfl⟩
 rw [← hw6]
 have hs6 : w6.heap.size = w.heap.size + 5 := by rw [hw6]; exact (Array.size_push _).trans (by rw [hs5])
 have c2 : w6.heap[w.heap.size]? = some (.cells #[.int .i64 0, .int .i64 0, .slice none 0 0] 32 (0, 0)) := by rw [hw6]; exact blk_alloc b2 _
 have c4 : w6.heap[w.heap.size + 1]? = some (.cells #[.func (.func 66) #[] #[]] 69 (0, 0)) := by rw [hw6]; exact blk_alloc b4 _
 have c5 : w6.heap[B]? = some (.cells #[.int .i64 0, .int .i64 x, .slice none 0 0] 32 (0, 0)) := by rw [hw6]; exact blk_alloc b5 _
 have c6 : w6.heap[w.heap.size + 4]? = some (.cells #[.slice (some ad) m c] 68 (0, 0)) := by rw [hw6]; have z := blk_new W5 (.cells #[.slice (some ad) m c] 68 (0, 0)); rw [hs5] at z; exact z
 have hb6 : Below w.heap.size w w6 := by rw [hw6]; exact below_alloc hb5 _
 clear hw6 b2 b4 b5 hb5
 have hml : m ≤ l.length := by omega
 have hli : (l.take m).length = m := by rw [List.length_take]; omega
 have hr1 : Kd.C (Kd.int .i64) w (some ad) (l.take m).length (l.take m) := Kd.C_take hr0 hml
 refine wpIn_rangeFunc_ownG_of_H rfl (by omega) (gf := 83) (lb := #[.pointer (some ⟨w.heap.size + 4, 0, none⟩)]) rfl t38 (enters_of Try.func83 (by kernel_rfl) rfl)
  (bw_stops Fence.wide _ t38 rfl (by omega) (w.heap.size + 4) w (some ad) c (l.take m) hr1 w6 hb6 (by rw [hli]; exact c6)) kpB_t (kpB_b (by omega) (by omega)) (Below.refl _ _) (fun _ => rfl)
  (fun pre W => (((PileI w.heap.size B x pre W ∧ W.heap[w.heap.size]? = some (.cells #[.int .i64 0, .int .i64 0, .slice none 0 0] 32 (0, 0))) ∧ W.heap[w.heap.size + 1]? = some (.cells #[.func (.func 66) #[] #[]] 69 (0, 0))) ∧ W.heap[w.heap.size + 4]? = some (.cells #[.slice (some ad) m c] 68 (0, 0))) ∧ Below w.heap.size w W)
  (fun _ _ _ => False)
  (OwnFrom.and (OwnFrom.and (OwnFrom.and (OwnFrom.and (pileI_own _ _ _ _) (own_b _ (fun _ => w.heap.size) (fun _ => .cells #[.int .i64 0, .int .i64 0, .slice none 0 0] 32 (0, 0)) (fun _ => rfl))) (own_b _ (fun _ => w.heap.size + 1) (fun _ => .cells #[.func (.func 66) #[] #[]] 69 (0, 0)) (fun _ => rfl))) (own_b _ (fun _ => w.heap.size + 4) (fun _ => .cells #[.slice (some ad) m c] 68 (0, 0)) (fun _ => rfl))) (ownFrom_below (Nat.le_refl _) (by omega)))
  (fun _ _ _ _ _ hs _ _ => hs)
  ⟨⟨⟨⟨⟨_, c5, fun _ => False, fun _ h => h.elim, Kd.V_nil _ _ _ _ _⟩, c2⟩, c4⟩, c6⟩, hb6⟩
  (fun y => { tmps := #[.slice (some ad) l.length c, undef, .pointer (some ⟨w.heap.size, 0, none⟩), .bool false, .pointer (some ⟨w.heap.size + 1, 0, none⟩), .pointer (some ⟨B, 0, none⟩), undef, .int .i64 y.2, u8, u9, u10, u11, u12, u13, u14, u15, u16, u17, u18, u19, u20, u21, u22, u23, u24, u25, u26, u27, u28, u29, .slice (some ad) l.length c, .slice (some ad) l.length c, .int .i64 l.length, .int .i64 m, .slice (some ad) m c, .func (.func 83) #[] #[.pointer (some ⟨w.heap.size + 4, 0, none⟩)], .int .i64 y.1, .int .i64 y.2, undef, undef, undef, undef, undef, undef, undef], defers := [] })
  ?assign ?body ?done ?stop (fun W => ⟨Below.refl _ _, rfl⟩)
 case assign =>
  intro lk y W K hK
  gi_wp2
  exact hK
 case body =>
  rintro lk pre y W ⟨⟨⟨⟨⟨v2, d5, hv⟩, d2⟩, d4⟩, d6⟩, hbW⟩ hlt
  have hmx2 : Try.prog.follows .mixedOrders = true := by kernel_rfl
  have hd1 : 1 ≤ 5 - 1 - 1 := by omega
  obtain ⟨p, hp_⟩ : ∃ p, p = pile x pre := ⟨_, rfl⟩
  obtain ⟨yv, hy_⟩ : ∃ yv, yv = y.2 := ⟨_, rfl⟩
  have HPP := aq_ hp_
  have HYY := aq_ hy_
  have D5 := aq_ d5
  have HV := aq_ hv
  rw [← hp_] at d5
  rw [← hy_]
  have k4 : W.cell? ⟨w.heap.size + 1, 0, none⟩ = some (.func (.func 66) #[] #[]) := blk_cell d4 0
  have k41 : (W.alloc (.cells #[.int .i64 0, .int .i64 yv, .slice none 0 0] 32 (0, 0))).cell? ⟨w.heap.size + 1, 0, none⟩ = some (.func (.func 66) #[] #[]) := alloc_far k4 _
  obtain ⟨⟨q0, q1, q2⟩, f0, f1, f2⟩ := cells3 d5
  obtain ⟨⟨q01, q11, q21⟩, f01, f11, f21⟩ := cells3 (blk_alloc d5 (.cells #[.int .i64 0, .int .i64 yv, .slice none 0 0] 32 (0, 0)))
  obtain ⟨⟨q02, q12, q22⟩, f02, f12, f22⟩ := cells3 (blk_alloc (blk_alloc d5 (.cells #[.int .i64 0, .int .i64 yv, .slice none 0 0] 32 (0, 0))) (.cells #[.int .i64 0, .int .i64 yv, .slice none 0 0, .int .i64 p.f0, .int .i64 p.f1, v2] 32 (0, 0)))
  have hle : w.heap.size ≤ W.heap.size := hbW.size
  have hB0 : w.heap.size ≤ B := by omega
  have n2 : w.heap.size ≠ B := by omega
  have n4 : w.heap.size + 1 ≠ B := by omega
  have n6 : w.heap.size + 4 ≠ B := by omega
  obtain ⟨A, hA⟩ : ∃ A : Obj, A = .cells #[.int .i64 0, .int .i64 yv, .slice none 0 0] 32 (0, 0) := ⟨_, rfl⟩
  obtain ⟨G, hG⟩ : ∃ G : Obj, G = .cells #[.int .i64 0, .int .i64 yv, .slice none 0 0, .int .i64 p.f0, .int .i64 p.f1, v2] 32 (0, 0) := ⟨_, rfl⟩
  have hsn := pileI_snoc (x := y) hB0 D5.out HV.out (A := A) (G := G) (by rw [hG, hp_, hy_])
  obtain ⟨W', hW'⟩ : ∃ W', W' = (((((W.alloc A).alloc G).setCell ⟨B, 0, none⟩ (.int .i64 2)).setCell ⟨B, 1, none⟩ (.int .i64 0)).setCell ⟨B, 2, none⟩ (.slice (some ⟨W.heap.size + 1, 0, none⟩) 2 2)).drew := ⟨_, rfl⟩
  rw [← hW'] at hsn
  have far : ∀ (k : Nat) (o : Obj), k ≠ B → W.heap[k]? = some o → W'.heap[k]? = some o := fun k o hk h => by
   rw [hW']
   exact (Below.heap_setCell _ ⟨B, 2, none⟩ _ k hk).trans ((Below.heap_setCell _ ⟨B, 1, none⟩ _ k hk).trans ((Below.heap_setCell _ ⟨B, 0, none⟩ _ k hk).trans (blk_alloc (blk_alloc h _) _)))
  have hbb : Below w.heap.size W W' := by
   rw [hW']
   exact below_drew (((((below_alloc (below_alloc (Below.refl W.heap.size W) _) _).mono hle).setCell (p := ⟨B, 0, none⟩) hB0 _).setCell (p := ⟨B, 1, none⟩) hB0 _).setCell (p := ⟨B, 2, none⟩) hB0 _)
  have hkf : KeepsFrom w6.heap.size W W' := by
   rw [hW']
   exact ((((((KeepsOthers.alloc W A).trans (KeepsOthers.alloc _ G)).trans (KeepsOthers.setCell _ ⟨B, 0, none⟩ _)).trans (KeepsOthers.setCell _ ⟨B, 1, none⟩ _)).trans (KeepsOthers.setCell _ ⟨B, 2, none⟩ _)).trans (KeepsOthers.drew _)).from _
  have hfin : KeepsFrom w6.heap.size W W' ∧ KpB w.heap.size (w.heap.size + 4) W W' ∧ ((((PileI w.heap.size B x (pre ++ [y]) W' ∧ W'.heap[w.heap.size]? = some (.cells #[.int .i64 0, .int .i64 0, .slice none 0 0] 32 (0, 0))) ∧ W'.heap[w.heap.size + 1]? = some (.cells #[.func (.func 66) #[] #[]] 69 (0, 0))) ∧ W'.heap[w.heap.size + 4]? = some (.cells #[.slice (some ad) m c] 68 (0, 0))) ∧ Below w.heap.size w W') :=
   ⟨hkf, ⟨hbb, (far _ _ n6 d6).trans d6.symm⟩, ⟨⟨⟨hsn, far _ _ n2 d2⟩, far _ _ n4 d4⟩, far _ _ n6 d6⟩, hbW.trans hbb⟩
  subst hA
  subst hG
  rw [hW'] at hfin
  have HFIN := aq_ hfin
  clear d5 hv hp_ hy_ d2 d4 d6 hbW hle hB0 n2 n4 n6 hsn hW' far hbb hkf hfin c2 c4 c5 c6 hb6
  gi_wp2
  gi_region_with_o (gi_at_call 66; refine (CallsIn.inRound lk (word_in Fence.wide _ t27 rfl _ _)).mono ?_; rintro e w' ⟨rfl, rfl⟩)
  all_goals exact HFIN.out
 case done =>
  rintro D ys W hD hys ⟨⟨⟨⟨⟨v2, d5, hv⟩, d2⟩, d4⟩, d6⟩, hbW⟩ hK
  have hpl : pile x ys = rowT l := by
   rw [hys, pile_all, HX.out, ← rdi_take l (show m < l.length by omega), hm, List.take_length]
  rw [hpl] at d5 hv
  obtain ⟨ok, hok, hV⟩ := hv
  obtain ⟨A2, e2, rfl⟩ := Kd.V_slice hV
  obtain ⟨p, hp_⟩ : ∃ p, p = rowT l := ⟨_, rfl⟩
  rw [← hp_] at d5 hV
  have HPR := aq_ hp_
  obtain ⟨⟨q0, q1, q2⟩, f0, f1, f2⟩ := cells3 d5
  obtain ⟨⟨g0, g1, g2⟩, h0, h1, h2⟩ := cells3 d2
  have hsD : w.heap.size + 5 ≤ D := by omega
  have HBW := aq_ hbW
  have HVV := aq_ hV
  have HOK := aq_ hok
  have HKD := aq_ hK
  have D2 := aq_ d2
  clear d5 d2 d4 d6 hbW hpl hys hp_ hV hok hK c2 c4 c5 c6 hb6
  gi_wp2
  have hne : D ≠ w.heap.size := by omega
  have hK2 := (Below.heap_setCell ((W.setCell ⟨w.heap.size, 0, none⟩ (.int .i64 p.f0)).setCell ⟨w.heap.size, 1, none⟩ (.int .i64 p.f1)) ⟨w.heap.size, 2, none⟩ (.slice A2 p.f2.length e2) D hne).trans ((Below.heap_setCell (W.setCell ⟨w.heap.size, 0, none⟩ (.int .i64 p.f0)) ⟨w.heap.size, 1, none⟩ (.int .i64 p.f1) D hne).trans ((Below.heap_setCell W ⟨w.heap.size, 0, none⟩ (.int .i64 p.f0) D hne).trans HKD.out))
  have hpr := HPR.out
  clear HPR
  subst hpr
  refine ⟨by simp, .inl ⟨_, _, rfl, run_takeDeferred hK2, ?_⟩⟩
  have r2 := blk_put (blk_put (blk_put D2.out 0 (.int .i64 (rowT l).f0) rfl) 1 (.int .i64 (rowT l).f1) rfl) 2 (.slice A2 (rowT l).f2.length e2) rfl
  refine ⟨_, results_ct rfl _ _ w.heap.size 32 #[.int .i64 (rowT l).f0, .int .i64 (rowT l).f1, .slice A2 (rowT l).f2.length e2] (0, 0) _ rfl ((World.putObj_heap_other (by omega)).trans r2) Try.underlying32 rfl (by kernel_rfl), _, rfl, ?_, ?_⟩
  ·have hne2 : ∀ k, ok k → k ≠ w.heap.size := fun k hk => by have := (HOK.out k hk).1; omega
   have V1 := Kd.V_far (p := ⟨w.heap.size, 2, none⟩) (Kd.V_far (p := ⟨w.heap.size, 1, none⟩) (Kd.V_far (p := ⟨w.heap.size, 0, none⟩) HVV.out hne2 (.int .i64 (rowT l).f0)) hne2 (.int .i64 (rowT l).f1)) hne2 (.slice A2 (rowT l).f2.length e2)
   refine Kd.V_mono (Kd.V_step V1 (fun k hk _ => World.putObj_heap_other (fun e => ?_))) (fun k hk => by have := (HOK.out k hk).1; omega)
   obtain ⟨_, _, o, h3, h4⟩ := HOK.out k hk
   first | subst e | rw [e] at h3
   have h5 := HKD.out
   rw [h3] at h5
   injection h5 with h5
   rw [h5] at h4
   cases h4
  ·exact (below_set (below_set (below_set HBW.out (Nat.le_refl _)) (Nat.le_refl _)) (Nat.le_refl _)).trans (belowK_b (w := w) (Nat.le_refl _) _ D _ _ (by omega) hK2 rfl rfl)
 case stop =>
  rintro D c pre W _ _ h _
  exact h.elim
def term_Row.f (l0 : List Int) : Option (Int × Int × (List (S24)) × Bool) := some ((rowR l0).f0, (rowR l0).f1, (rowR l0).f2, okRow l0)
theorem term_Row.calls (A0 : Option Addr) (c0 : Nat) (l0 : List Int) (r1 : Int) (r2 : Int) (r3 : List (S24)) (r4 : Bool) (w : World) (hr0 : Kd.C (Kd.int .i64) w A0 l0.length l0) (hc0 : l0.length ≤ c0) (h : term_Row.f l0 = some (r1, r2, r3, r4)) :
  Calls Try.prog 40 #[.slice A0 l0.length c0] w fun e w' => ∃ v2_ : Value, e = .returned (.tuple #[.agg #[.int .i64 r1, .int .i64 r2, v2_], .bool r4]) ∧ Kd.V k24 32 w' w.heap.size (fun k_ => (w.heap.size ≤ k_)) v2_ r3 ∧ Below w.heap.size w w' := by
 simp only [term_Row.f, Option.some.injEq, Prod.mk.injEq] at h
 obtain ⟨rfl, rfl, rfl, rfl⟩ := h
 have no : okRow l0 = false → (l0 = [] ∨ (l0 ≠ [] ∧ 12 < l0.length) ∨ (l0 ≠ [] ∧ l0.length ≤ 12 ∧ ∃ x ∈ l0, x < 0)) → Calls Try.prog 40 #[.slice A0 l0.length c0] w fun e w' => ∃ v2_ : Value, e = .returned (.tuple #[.agg #[.int .i64 (rowR l0).f0, .int .i64 (rowR l0).f1, v2_], .bool (okRow l0)]) ∧ Kd.V k24 32 w' w.heap.size (fun k_ => (w.heap.size ≤ k_)) v2_ (rowR l0).f2 ∧ Below w.heap.size w w' := by
  intro h h2
  refine (row_no l0 A0 c0 w ⟨hr0⟩ h2).mono ?_
  rintro e w' ⟨rfl, hb⟩
  rw [rowR_no' h, h]
  exact ⟨_, rfl, Kd.V_nil _ _ _ _ _, hb⟩
 by_cases hl : l0 = []
 ·exact no (by rw [hl]; rfl) (.inl hl)
 ·by_cases h12 : 12 < l0.length
  ·exact no (by unfold okRow; rw [decide_eq_false (show ¬ l0.length ≤ 12 by omega)]; simp) (.inr (.inl ⟨hl, h12⟩))
  ·by_cases hx : ∃ x ∈ l0, x < 0
   ·refine no ?_ (.inr (.inr ⟨hl, by omega, hx⟩))
    obtain ⟨x, hm, h0⟩ := hx
    unfold okRow
    have : l0.all (fun x => decide (0 ≤ x)) = false := by rw [List.all_eq_false]; exact ⟨x, hm, by simp; omega⟩
    rw [this]
    simp
   ·have hpos : ∀ x ∈ l0, 0 ≤ x := fun x hm => by
     rcases Int.lt_or_le x 0 with h | h
     ·exact absurd ⟨x, hm, h⟩ hx
     ·exact h
    have hk : okRow l0 = true := by
     unfold okRow
     rw [decide_eq_true hl, decide_eq_true (show l0.length ≤ 12 by omega), List.all_eq_true.2 (fun x hm => by simp [hpos x hm])]
     rfl
    rw [rowR_yes' hk, hk]
    exact (callsIn_wide (n := 5)).1 (row_yes_in l0 hl (by omega) hpos A0 c0 w hr0 hc0)
end Go.Proofs.Ytdinphnljokigaa.P
end
