/- What LawSymAgree rests on, part 19: several texts put together. -/
import Derived.Test.YtdinphnljokigaaGreatS18
import Derived.Test.YtdinphnljokigaaGreatS6
import Derived.Test.YtdinphnljokigaaGreatS3
set_option linter.unusedVariables false
set_option linter.unnecessarySimpa false
set_option linter.unusedSimpArgs false
set_option maxRecDepth 100000
section
namespace Go.Proofs.YtdinphnljokigaaGreat.P
open Go.RowKit Go.Lib Go.Proofs.YtdinphnljokigaaGreatW.PrintWords Go.Proofs.YtdinphnljokigaaGreatW.PrintLast Go.Proofs.YtdinphnljokigaaGreatW.PrintMore
theorem Usr.eq_iff (a b : Usr) : a = b ↔ (a.no = b.no ∧ a.role = b.role ∧ a.key = b.key) := by
  constructor
  · rintro rfl
    exact ⟨rfl, rfl, rfl⟩
  · obtain ⟨a0, a1, a2⟩ := a
    obtain ⟨b0, b1, b2⟩ := b
    rintro ⟨h0, h1, h2⟩
    dsimp only at h0 h1 h2
    subst h0 h1 h2
    rfl
instance : DecidableEq Usr := fun a b => decidable_of_iff _ (Usr.eq_iff a b).symm
theorem usr_eq (x y : Usr) : decide (x = y) = ((x.no == y.no) && ((x.role == y.role) && decide (x.key = y.key))) := by
  rw [Bool.eq_iff_iff, decide_eq_true_eq, Usr.eq_iff]
  simp only [Bool.and_eq_true, beq_iff_eq, decide_eq_true_eq]
set_option maxHeartbeats 2000000 in
theorem usame1_any (x y : Usr) (A B : Option Addr) (c d : Nat) (w : World) (hx : (Kd.int .u8).C w A x.key.length x.key) (hy : (Kd.int .u8).C w B y.key.length y.key) :
    Calls Tryz.prog 76 #[.agg #[.int .i64 x.no, .int .i64 x.role, .slice A x.key.length c], .agg #[.int .i64 y.no, .int .i64 y.role, .slice B y.key.length d]] w fun e w' => e = .returned (.bool (decide (x = y))) ∧ Below w.heap.size w w' := by
  have HX := aq_ hx
  have HY := aq_ hy
  have HB := aq_ (Below.refl w.heap.size w)
  rw [usr_eq]
  clear hx hy
  cases t0 : (x.no == y.no)
  · go_enter Tryz.func76, Tryz.ntmps76
    go_wp2
    go_ret
    exact ⟨rfl, below_alloc (below_alloc HB.out _) _⟩
  cases t1 : (x.role == y.role)
  · go_enter Tryz.func76, Tryz.ntmps76
    go_wp2
    go_ret
    exact ⟨rfl, below_alloc (below_alloc HB.out _) _⟩
  go_enter Tryz.func76, Tryz.ntmps76
  go_wp2_with (go_at_call 77; (with_reducible refine (beq_any x.key y.key A B c d _ (Kd.C_alloc (Kd.C_alloc HX.out _) _) (Kd.C_alloc (Kd.C_alloc HY.out _) _)).mono ?_); rintro e w2 ⟨rfl, hb⟩; have HB2 := aq_ (below_step (below_alloc (below_alloc HB.out _) _) hb); clear hb)
  go_ret
  exact ⟨rfl, HB2.out⟩
set_option maxHeartbeats 2000000 in
theorem ueq_any (l k : List Usr) (A B : Option Addr) (c d : Nat) (W : World) (hr : kU.C W A l.length l) (hs : kU.C W B k.length k) :
    Calls Tryz.prog 75 #[.slice A l.length c, .slice B k.length d, .func (.func 76) #[] #[]] W fun e w' => e = .returned (.bool (decide (l = k))) ∧ Below W.heap.size W w' := by
  have hml : l.length ≤ 9223372036854775807 := hr.2.1
  have HC := aq_ hr
  have HD := aq_ hs
  have HB := aq_ (Below.refl W.heap.size W)
  clear hr hs
  by_cases hlen : l.length = k.length
  · have HLEN := aq_ hlen
    have hl2 : (decide ((l.length : Int) = (k.length : Int))) = true := by simp [hlen]
    have hl3 : ((l.length : Int) == (k.length : Int)) = true := by simp [hlen]
    have hl4 : ((l.length : Int) != (k.length : Int)) = false := by simp [hlen]
    clear hlen
    go_enter Tryz.func75, Tryz.ntmps75
    go_wp2
    go_loopw [17] (fun v wr => ∃ i : Nat, i ≤ l.length ∧ v = .int .i64 i ∧ Aside0 (l.take i = k.take i) ∧ Aside0 (Below W.heap.size W wr)) (fun v _ => l.length - (intOf v).toNat)
    case atStart => exact ⟨0, by omega, rfl, ⟨rfl⟩, HB⟩
    case round =>
      clear HB
      obtain ⟨i, hi, rfl, HS, HB⟩ := hrel
      by_cases hlt : i < l.length
      · have hlt2 : i < k.length := by rw [← HLEN.out]; exact hlt
        obtain ⟨ax, A1, c1, rfl, x0, x1, x2, _, hx⟩ := at_U (Kd.C_below HC.out HB.out) i hlt
        obtain ⟨ay, A2, c2, rfl, y0, y1, y2, _, hy⟩ := at_U (Kd.C_below HD.out HB.out) i hlt2
        have H1 := aq_ (show l[i]? = some (rdU l i) by rw [rdU_get l hlt]; exact List.getElem?_eq_getElem hlt)
        have H2 := aq_ (show k[i]? = some (rdU k i) by rw [rdU_get k hlt2]; exact List.getElem?_eq_getElem hlt2)
        obtain ⟨x, hxe⟩ : ∃ x, x = rdU l i := ⟨_, rfl⟩
        obtain ⟨y, hye⟩ : ∃ y, y = rdU k i := ⟨_, rfl⟩
        rw [← hxe] at x0 x1 x2 hx H1
        rw [← hye] at y0 y1 y2 hy H2
        have HX := aq_ hx
        have HY := aq_ hy
        clear hxe hye hx hy
        have y0' := fun o => alloc_far y0 o
        have y1' := fun o => alloc_far y1 o
        have y2' := fun o => alloc_far y2 o
        by_cases hxy : x = y
        · have HE := aq_ (show decide (x = y) = true from decide_eq_true hxy)
          have HT := aq_ (take_moreG HS.out H1.out (by rw [hxy]; exact H2.out))
          clear hxy
          go_wp2_with (go_at_call 76; (with_reducible refine (usame1_any x y A1 A2 c1 c2 _ (Kd.C_alloc (Kd.C_alloc HX.out _) _) (Kd.C_alloc (Kd.C_alloc HY.out _) _)).mono ?_); rw [HE.out]; rintro e w2 ⟨rfl, hb⟩; have HB2 := aq_ (below_step (below_alloc (below_alloc HB.out _) _) hb); clear hb)
          go_roundw
          case rel =>
            first
            | exact ⟨i + 1, by omega, by go_num, HT, HB2⟩
            | (repeat apply Exists.intro
               exact ⟨⟨i + 1, by omega, (rfl : Value.int .i64 ((i : Int) + 1) = .int .i64 ((i + 1 : Nat) : Int)), HT, HB2⟩, rfl⟩)
          case measure => simp [intOf]; omega
        · have HE := aq_ (show decide (x = y) = false from decide_eq_false hxy)
          have HT := aq_ (take_notG H1.out H2.out hxy)
          clear hxy
          go_wp2_with (go_at_call 76; (with_reducible refine (usame1_any x y A1 A2 c1 c2 _ (Kd.C_alloc (Kd.C_alloc HX.out _) _) (Kd.C_alloc (Kd.C_alloc HY.out _) _)).mono ?_); rw [HE.out]; rintro e w2 ⟨rfl, hb⟩; have HB2 := aq_ (below_step (below_alloc (below_alloc HB.out _) _) hb); clear hb)
          go_ret
          exact ⟨by rw [decide_eq_false HT.out]; rfl, HB2.out⟩
      · obtain rfl : i = l.length := by omega
        have he : l = k := by
          have h := HS.out
          rw [List.take_length, HLEN.out, List.take_length] at h
          exact h
        have HE := aq_ he
        clear he
        go_wp2
        go_ret
        exact ⟨by rw [decide_eq_true HE.out]; rfl, HB.out⟩
  · have hl3 : ((l.length : Int) == (k.length : Int)) = false := by simpa using (show ¬ ((l.length : Int) = (k.length : Int)) by omega)
    have hl2 : (decide ((l.length : Int) = (k.length : Int))) = false := decide_eq_false (by omega)
    have HN := aq_ (show l ≠ k from fun h => hlen (by rw [h]))
    clear hlen
    go_enter Tryz.func75, Tryz.ntmps75
    go_wp2
    go_ret
    exact ⟨by rw [decide_eq_false HN.out]; rfl, HB.out⟩
theorem usame_any (l k : List Usr) (A B : Option Addr) (c d : Nat) (W : World) (hr : kU.C W A l.length l) (hs : kU.C W B k.length k) :
    Calls Tryz.prog 46 #[.slice A l.length c, .slice B k.length d] W fun e w' => e = .returned (.bool (decide (l = k))) ∧ Below W.heap.size W w' := by
  have HC := aq_ hr
  have HD := aq_ hs
  clear hr hs
  go_enter Tryz.func46, Tryz.ntmps46
  go_wp2_with (go_at_call 75; (with_reducible refine (ueq_any l k A B c d _ HC.out HD.out).mono ?_); rintro e w1 ⟨rfl, hb⟩; have HB := aq_ hb; clear hb)
  go_ret
  exact ⟨rfl, HB.out⟩
mutual
def term_Own.l0 : Nat → Int → Int → Int → Int → List (S24) → Option (Int × Int × (List (S24)))
 | 0, _, _, _, _, _ => none
 | k + 1, x10, x11, x102000, x102001, x102002 => if x11 < x10 then (if 0 ≤ x11 then (if x11 < (x102002.length : Int) then ((term_Own.f k ((rd_T24 x102002 x11).f0) ((rd_T24 x102002 x11).f1) ((rd_T24 x102002 x11).f2)).bind fun bt107 => (term_Own.l0 k x10 (wrap64 (x11 + 1)) x102000 x102001 (x102002.set (x11 : Int).toNat (⟨bt107.1, bt107.2.1, bt107.2.2⟩ : S24)))) else (none)) else (none)) else (some (x102000, x102001, x102002))
def term_Own.f : Nat → Int → Int → List (S24) → Option (Int × Int × (List (S24)))
 | 0, _, _, _ => none
 | k + 1, a0_0, a0_1, l0_2 => (api_Term_30.f l0_2).bind fun t103 => (term_Own.l0 k (t103.length : Int) 0 a0_0 a0_1 t103)
end
def term_Own.T5 : Bool × List (List Nat × List Nat) := (true, [([], []), ([0], [0]), ([], []), ([], []), ([3], [3]), ([], []), ([4, 5], [4, 5]), ([6], [6]), ([7], [7]), ([1, 2, 0, 1, 2, 3, 4, 5, 6, 7, 8], [1, 2]), ([9, 8, 8, 0, 1, 2, 3, 4, 5, 6, 7, 8], [8, 9])])
def term_Own.B5 : List Nat := [0, 1, 0, 0, 8, 0, 56, 120, 248, 511, 1023]
theorem term_Own.tab5 : rtab .any (opsOf Tryz.f56 5) = term_Own.T5 := by kernel_rfl
theorem term_Own.bits5 : waitsOk term_Own.T5.2 term_Own.B5 = true := by kernel_rfl
set_option maxHeartbeats 8000000 in
set_option maxRecDepth 100000 in
theorem term_Own.calls (k : Nat) : ∀ (a0_0 : Int) (a0_1 : Int) (P0_2_ : Nat → Prop) (A0_2 : Option Addr) (c0_2 : Nat) (l0_2 : List (S24)) (r1 : Int) (r2 : Int) (r3 : List (S24)) (w : World) (hs0_2 : Kd.V k24 36 w w.heap.size (fun k_ => P0_2_ k_) (.slice A0_2 l0_2.length c0_2) l0_2) (h : term_Own.f k a0_0 a0_1 l0_2 = some (r1, r2, r3)),
  Calls Tryz.prog 56 #[.agg #[.int .i64 a0_0, .int .i64 a0_1, .slice A0_2 l0_2.length c0_2]] w fun e w' => ∃ v2_ : Value, e = .returned (.agg #[.int .i64 r1, .int .i64 r2, v2_]) ∧ Kd.N k24 36 w' w.heap.size (fun k_ => (P0_2_ k_ ∨ w.heap.size ≤ k_)) v2_ r3 ∧ Below w.heap.size w w' := by
 induction k using Nat.strongRecOn with
 | _ k ih =>
 intro a0_0 a0_1 P0_2_ A0_2 c0_2 l0_2 r1 r2 r3 w hs0_2 h
 cases k with
 | zero => exact absurd h (by simp [term_Own.f])
 | succ k =>
 simp only [term_Own.f] at h
 have hu24 := Tryz.underlying36
 have HO0_2 := aq_ (show Kd.V k24 36 w w.heap.size (fun k_ => (P0_2_ k_ ∨ w.heap.size ≤ k_)) (.slice A0_2 l0_2.length c0_2) l0_2 from Kd.V_mono hs0_2 (fun k_ hk => .inl hk))
 have HB := aq_ (Below.refl w.heap.size w)
 have H : ((api_Term_30.f l0_2).bind fun t103 => (term_Own.l0 k (t103.length : Int) 0 a0_0 a0_1 t103)) = some (r1, r2, r3) := h
 clear h
 replace H := Option.bind_eq_some_iff.mp H
 obtain ⟨t103, A20, H⟩ := H
 replace H : (term_Own.l0 k (t103.length : Int) 0 a0_0 a0_1 t103) = some (r1, r2, r3) := H
 have A2 := aq_ A20
 clear A20
 have H' := aq_ H
 clear H
 go_enter Tryz.func56, Tryz.ntmps56
 go_wp2_with (first | ((with_reducible refine gate_dst (N := 1) rfl ?_); refine box_event ?hg (N := 1) ?hd (cs := #[.int .i64 a0_0, .int .i64 a0_1, .slice A0_2 l0_2.length c0_2]) (t := 36) ?hr ?_; (case hd => rfl); (case hg => rfl); (case hr => first | (go_simp; done) | (go_simp; rfl)); intro gb101 hg w3 hbox hb; have n0_ := aq_ (Kd.V_below (Kd.V_elderB (by (with_reducible repeat (first | apply Kd.V_alloc | apply Kd.V_drewN | apply Kd.V_drew)); exact HO0_2.out) gb101 (Nat.le_of_eq hg.symm)) hb); have n1_ := aq_ (below_step (by repeat (first | (with_reducible first | exact HB.out | apply below_alloc | apply pw_below_drewN | apply below_drew1) | exact HB.out)) hb); have n2_ := aq_ (hbox); have n3_ := aq_ ((by rw [hg]; exact (below_size (by repeat (first | (with_reducible first | exact HB.out | apply below_alloc | apply pw_below_drewN | apply below_drew1) | exact HB.out))) : w.heap.size ≤ gb101)); have n4_ := aq_ ((by rw [hg]; exact (below_size (by repeat (first | (with_reducible first | exact HB.out | apply below_alloc | apply pw_below_drewN | apply below_drew1) | exact HB.out))) : w.heap.size ≤ gb101)); clear HO0_2; clear HB; have HO0_2 := n0_; have HB := n1_; have BK101 := n2_; have GW101 := n3_; have GE101 := n4_; clear n0_ n1_ n2_ n3_ n4_; clear hb hbox hg) | ((with_reducible refine gate_dst (N := 2) rfl ?_); refine box_event ?hg (N := 2) ?hd (cs := #[.int .i64 0, .int .i64 0, .slice none 0 0]) (t := 36) ?hr ?_; (case hd => rfl); (case hg => rfl); (case hr => first | (go_simp; done) | (go_simp; rfl)); intro gb102 hg w4 hbox hb; have n0_ := aq_ (Kd.V_below (Kd.V_elderB (by (with_reducible repeat (first | apply Kd.V_alloc | apply Kd.V_drewN | apply Kd.V_drew)); exact HO0_2.out) gb102 (Nat.le_of_eq hg.symm)) hb); have n1_ := aq_ (blk_below (g := gb101) (o := .cells #[.int .i64 a0_0, .int .i64 a0_1, .slice A0_2 l0_2.length c0_2] 36 (0, 0)) (by (with_reducible repeat (first | refine blk_drewN ?_ _ | refine blk_drew ?_ | refine blk_alloc ?_ _)); exact BK101.out) hb); have n2_ := aq_ (below_step (by repeat (first | (with_reducible first | exact HB.out | apply below_alloc | apply pw_below_drewN | apply below_drew1 | refine below_set ?_ GE101.out) | exact HB.out)) hb); have n3_ := aq_ (hbox); have n4_ := aq_ ((by rw [hg]; exact (below_size (by repeat (first | (with_reducible first | exact HB.out | apply below_alloc | apply pw_below_drewN | apply below_drew1 | refine below_set ?_ GE101.out) | exact HB.out))) : w.heap.size ≤ gb102)); have n5_ := aq_ ((by rw [hg]; exact (below_size (by repeat (first | (with_reducible first | exact HB.out | apply below_alloc | apply pw_below_drewN | apply below_drew1 | refine below_set ?_ GE101.out) | exact HB.out))) : w.heap.size ≤ gb102)); have n6_ := aq_ ((by rw [hg]; exact Nat.ne_of_lt (blk_lt (g := gb101) (o := .cells #[.int .i64 a0_0, .int .i64 a0_1, .slice A0_2 l0_2.length c0_2] 36 (0, 0)) (by (with_reducible repeat (first | refine blk_drewN ?_ _ | refine blk_drew ?_ | refine blk_alloc ?_ _)); exact BK101.out)) : gb101 ≠ gb102)); have n7_ := aq_ ((by rw [hg]; exact Nat.ne_of_gt (blk_lt (g := gb101) (o := .cells #[.int .i64 a0_0, .int .i64 a0_1, .slice A0_2 l0_2.length c0_2] 36 (0, 0)) (by (with_reducible repeat (first | refine blk_drewN ?_ _ | refine blk_drew ?_ | refine blk_alloc ?_ _)); exact BK101.out)) : gb102 ≠ gb101)); clear HO0_2; clear BK101; clear HB; have HO0_2 := n0_; have BK101 := n1_; have HB := n2_; have BK102 := n3_; have GW102 := n4_; have GE102 := n5_; have NB101_102 := n6_; have NB102_101 := n7_; clear n0_ n1_ n2_ n3_ n4_ n5_ n6_ n7_; clear hb hbox hg; have hnb5 := NB101_102.out; have hnc5 := NB102_101.out; have hcz6_0 : w4.cell? ⟨gb101, 0, none⟩ = some (.int .i64 a0_0) := (blk_cell BK101.out 0).trans rfl; have hcz6_1 : w4.cell? ⟨gb101, 1, none⟩ = some (.int .i64 a0_1) := (blk_cell BK101.out 1).trans rfl; have hcz6_2 : w4.cell? ⟨gb101, 2, none⟩ = some (.slice A0_2 l0_2.length c0_2) := (blk_cell BK101.out 2).trans rfl; have hfz6_0 := blk_frozen BK101.out 0; have hfz6_1 := blk_frozen BK101.out 1; have hfz6_2 := blk_frozen BK101.out 2) | ((with_reducible refine gate_callee (f := 53) rfl ?_); refine goesL_ (some 6) rfl rfl Tryz.func53 (by kernel_rfl) rfl #[.slice A0_2 l0_2.length c0_2] rfl (by (try simp only [List.map_toArray, List.map_cons, List.map_nil]); first | done | rfl | (simp only [List.length_drop, List.length_take]; rfl)) ?_; (with_reducible refine (api_Term_30.calls (fun k_ => (((P0_2_ k_ ∨ w.heap.size ≤ k_) ∧ k_ ≠ gb101) ∧ k_ ≠ gb102)) _ _ l0_2 t103 _ ?side1 A2.out).mono ?_); (case side1 => exact HO0_2.out); rintro e w7 ⟨v104, rfl, ho0, hb⟩; refine ⟨_, rfl, ?_⟩; have n0_ := aq_ (Kd.V_elder' (by (with_reducible repeat (first | apply Kd.V_alloc | apply Kd.V_drewN | apply Kd.V_drew)); exact HO0_2.out) (by first | exact Kd.N_base ho0 | exact Kd.N_base (Kd.R_N ho0)) hb); have n1_ := aq_ (Kd.N_lower (Kd.N_mono (ok' := fun k_ => (P0_2_ k_ ∨ w.heap.size ≤ k_) ∧ k_ ≠ gb101 ∧ k_ ≠ gb102) ho0 (fun k_ hk_ => ⟨Or.elim hk_ (fun hs_ => hs_.1.1) (fun hn_ => (.inr (Nat.le_trans (below_size (by repeat (first | (with_reducible first | exact HB.out | apply below_alloc | apply pw_below_drewN | apply below_drew1 | refine below_set ?_ GE101.out | refine below_set ?_ GE102.out) | exact HB.out))) hn_))), Or.elim hk_ (fun hs_ => hs_.1.2) (fun hn_ => (Kd.freshB (g := gb101) (o := .cells #[.int .i64 a0_0, .int .i64 a0_1, .slice A0_2 l0_2.length c0_2] 36 (0, 0)) (by (with_reducible repeat (first | refine blk_drewN ?_ _ | refine blk_drew ?_ | refine blk_alloc ?_ _)); exact BK101.out) k_ hn_)), Or.elim hk_ (fun hs_ => hs_.2) (fun hn_ => (Kd.freshB (g := gb102) (o := .cells #[.int .i64 0, .int .i64 0, .slice none 0 0] 36 (0, 0)) (by (with_reducible repeat (first | refine blk_drewN ?_ _ | refine blk_drew ?_ | refine blk_alloc ?_ _)); exact BK102.out) k_ hn_))⟩)) (below_size (by repeat (first | (with_reducible first | exact HB.out | apply below_alloc | apply pw_below_drewN | apply below_drew1 | refine below_set ?_ GE101.out | refine below_set ?_ GE102.out) | exact HB.out)))); have n2_ := aq_ (blk_below (g := gb101) (o := .cells #[.int .i64 a0_0, .int .i64 a0_1, .slice A0_2 l0_2.length c0_2] 36 (0, 0)) (by (with_reducible repeat (first | refine blk_drewN ?_ _ | refine blk_drew ?_ | refine blk_alloc ?_ _)); exact BK101.out) hb); have n3_ := aq_ (blk_below (g := gb102) (o := .cells #[.int .i64 0, .int .i64 0, .slice none 0 0] 36 (0, 0)) (by (with_reducible repeat (first | refine blk_drewN ?_ _ | refine blk_drew ?_ | refine blk_alloc ?_ _)); exact BK102.out) hb); have n4_ := aq_ (below_step (by repeat (first | (with_reducible first | exact HB.out | apply below_alloc | apply pw_below_drewN | apply below_drew1 | refine below_set ?_ GE101.out | refine below_set ?_ GE102.out) | exact HB.out)) hb); clear HO0_2; clear BK101; clear BK102; clear HB; have HO0_2 := n0_; have HO105 := n1_; have BK101 := n2_; have BK102 := n3_; have HB := n4_; clear n0_ n1_ n2_ n3_ n4_; (try clear hb); (try clear hb2); (try clear hk); (try clear hi); (try clear ho0); obtain ⟨Ao8, co8, eo8⟩ := Kd.N_slice HO105.out; subst eo8; have hcz9_0 : w7.cell? ⟨gb101, 0, none⟩ = some (.int .i64 a0_0) := (blk_cell BK101.out 0).trans rfl; have hcz9_1 : w7.cell? ⟨gb101, 1, none⟩ = some (.int .i64 a0_1) := (blk_cell BK101.out 1).trans rfl; have hcz9_2 : w7.cell? ⟨gb101, 2, none⟩ = some (.slice A0_2 l0_2.length c0_2) := (blk_cell BK101.out 2).trans rfl; have hfz9_0 := blk_frozen BK101.out 0; have hfz9_1 := blk_frozen BK101.out 1; have hfz9_2 := blk_frozen BK101.out 2))
 go_loopg [11] k (fun kq v11 w' => ∃ (x11_1 : Int) (x102000_1 : Int) (x102001_1 : Int) (x102002_1 : List (S24)) (x103000_1 : Int) (x103001_1 : Int) (u102002 : Value), v11 = .int .i64 x11_1 ∧ Aside0 (term_Own.l0 kq (t103.length : Int) x11_1 x102000_1 x102001_1 x102002_1 = some (r1, r2, r3)) ∧ Aside0 (kq ≤ k) ∧ Aside0 (Kd.N k24 36 w' w.heap.size (fun k_ => (P0_2_ k_ ∨ w.heap.size ≤ k_) ∧ k_ ≠ gb101 ∧ k_ ≠ gb102) u102002 x102002_1) ∧ Aside0 (w'.heap[gb101]? = some (.cells #[.int .i64 x102000_1, .int .i64 x102001_1, u102002] 36 (0, 0))) ∧ Aside0 (w'.heap[gb102]? = some (.cells #[.int .i64 x103000_1, .int .i64 x103001_1, (.slice none 0 0)] 36 (0, 0))) ∧ Aside0 (Below w.heap.size w w'))
 case atStart => exact ⟨(0), (a0_0), (a0_1), (t103), (0), (0), (.slice Ao8 t103.length co8), (by first | rfl | (simp; done) | (simp [*]; done)), H', ⟨Nat.le_refl _⟩, ⟨by (with_reducible repeat (first | apply Kd.N_alloc | apply Kd.N_drewN | apply Kd.N_drew)); exact Kd.N_mono (Kd.N_far (p := ⟨gb101, 2, none⟩) (Kd.N_mono HO105.out (fun k_ hk => (⟨hk, hk.2.1⟩ : _ ∧ k_ ≠ gb101))) (fun _ hk => hk.2) (.slice Ao8 t103.length co8)) (fun _ hk => ⟨hk.1.1, ⟨hk.1.2.1, hk.1.2.2⟩⟩)⟩, ⟨by (with_reducible repeat (first | refine blk_drewN ?_ _ | refine blk_drew ?_ | refine blk_alloc ?_ _)); refine blk_put (cs := #[.int .i64 a0_0, .int .i64 a0_1, .slice A0_2 l0_2.length c0_2]) ?_ 2 _ rfl; (with_reducible repeat (first | refine blk_drewN ?_ _ | refine blk_drew ?_ | refine blk_alloc ?_ _)); exact BK101.out⟩, ⟨by (with_reducible repeat (first | refine blk_drewN ?_ _ | refine blk_drew ?_ | refine blk_alloc ?_ _)); refine blk_far ?_ NB102_101.out _; (with_reducible repeat (first | refine blk_drewN ?_ _ | refine blk_drew ?_ | refine blk_alloc ?_ _)); exact BK102.out⟩, ⟨by repeat (first | (with_reducible first | exact HB.out | apply below_alloc | apply pw_below_drewN | apply below_drew1 | refine below_set ?_ GE101.out | refine below_set ?_ GE102.out) | exact HB.out)⟩⟩
 case round =>
  clear H'
  try clear p2
  try clear c3
  try clear c5
  try clear hcz6_0
  try clear hcz6_1
  try clear hcz6_2
  try clear hcz9_0
  try clear hcz9_1
  try clear hcz9_2
  try clear hfz6_0
  try clear hfz6_1
  try clear hfz6_2
  try clear hfz9_0
  try clear hfz9_1
  try clear hfz9_2
  obtain ⟨x11_1, x102000_1, x102001_1, x102002_1, x103000_1, x103001_1, u102002, rfl, HA, HK1, HO_102002, BK101, BK102, HB⟩ := hrel
  cases gk with
  | zero => exact absurd HA.out (by simp [term_Own.l0])
  | succ k1 =>
   have H := HA.out
   clear HA
   simp only [term_Own.l0] at H
   by_cases c10 : x11_1 < (t103.length : Int)
   ·rw [if_pos c10] at H
    have c10b0 : decide (x11_1 < (t103.length : Int)) = true := decide_eq_true c10
    clear c10
    by_cases c11 : 0 ≤ x11_1
    ·rw [if_pos c11] at H
     have c11b0 : decide (0 ≤ x11_1) = true := decide_eq_true c11
     clear c11
     by_cases c12 : x11_1 < (x102002_1.length : Int)
     ·rw [if_pos c12] at H
      have c12b0 : decide (x11_1 < (x102002_1.length : Int)) = true := decide_eq_true c12
      clear c12
      replace H := Option.bind_eq_some_iff.mp H
      obtain ⟨⟨t107, t108, t109⟩, A130, H⟩ := H
      replace H : (term_Own.l0 k1 (t103.length : Int) (wrap64 (x11_1 + 1)) x102000_1 x102001_1 (x102002_1.set (x11_1 : Int).toNat (⟨t107, t108, t109⟩ : S24))) = some (r1, r2, r3) := H
      have A13 := aq_ A130
      clear A130
      obtain ⟨y112, hy112⟩ : ∃ y_ : List (S24), y_ = (x102002_1.set (x11_1 : Int).toNat (⟨t107, t108, t109⟩ : S24)) := ⟨_, rfl⟩
      replace H : (term_Own.l0 k1 (t103.length : Int) (wrap64 (x11_1 + 1)) x102000_1 x102001_1 y112) = some (r1, r2, r3) := by first | (rw [hy112]; with_reducible exact H) | (have H2_ := (Option.bind_some _ _).symm.trans H; rw [hy112]; with_reducible exact H2_) | (have H2_ := (Option.bind_some _ _).symm.trans H; with_reducible exact H2_) | with_reducible exact H | (rw [hy112]; exact H) | exact H
      have Ny112 := aq_ hy112
      clear hy112
      have H' := aq_ H
      clear H
      try go_wp2
      have n0_ := aq_ (Kd.N_drew HO_102002.out)
      have n1_ := aq_ (blk_drew BK101.out)
      have n2_ := aq_ (blk_drew BK102.out)
      have n3_ := aq_ (below_drew1 HB.out)
      clear HO_102002
      clear BK101
      clear BK102
      clear HB
      have HO_102002 := n0_
      have BK101 := n1_
      have BK102 := n2_
      have HB := n3_
      clear n0_ n1_ n2_ n3_
      obtain ⟨Ao16, co16, eo16⟩ := Kd.N_slice HO_102002.out
      (first | subst eo16 | (injection eo16 with f1_ f2_ f3_; have f4_ := f1_.symm; have f5_ := f3_.symm; clear f1_ f2_ f3_; subst f4_; subst f5_))
      have p106 : 0 ≤ (x11_1 : Int) := of_decide_eq_true (by first | (with_reducible assumption) | assumption)
      have q106 : x11_1 < (x102002_1.length : Int) := of_decide_eq_true (by first | (with_reducible assumption) | assumption)
      obtain ⟨ad106, A106_2, c106_2, e106, hx106_0, hx106_1, hx106_2, hl106_2, hi106_2⟩ := at_T24 (Kd.N_reads' HO_102002.out).2.2 x11_1 p106 q106
      cases e106
      obtain ⟨ce106, hce106, hMe106, hcc106⟩ := Kd.N_get HO_102002.out z24 x11_1 p106 (by first | exact q106 | exact of_decide_eq_true (by first | (with_reducible assumption) | assumption) | (have e_ := (Kd.N_reads' HO_102002.out).1; omega))
      obtain ⟨ua106_2, uc106_2, rfl, ul106_2, ge106_2⟩ := k24_openF hMe106
      have hv106_2 := hcc106 2 _ rfl
      rw [add_field _ _ 2 (by omega)] at hv106_2
      replace hv106_2 := Option.some.inj (hv106_2.symm.trans hx106_2)
      injection hv106_2 with hva_ hvn_ hvc_
      rw [hva_] at ge106_2
      rw [hvc_] at ul106_2
      have HL106_2 := aq_ (show Kd.V k24 36 _ w.heap.size _ _ ((rd_T24 x102002_1 x11_1).f2) from Kd.V_mk ul106_2 ge106_2)
      clear hva_ hvn_ hvc_ ge106_2 ul106_2
      clear hcc106 hce106
      have HR106_2 := aq_ hi106_2
      have HC106_2 := aq_ hl106_2
      clear hi106_2 hl106_2
      replace p106 := eq_true p106
      replace q106 := eq_true q106
      refine start_ (n := 11) (S := fun w' => w'.cell? ⟨gb101, 0, none⟩ = some (.int .i64 x102000_1) ∧ w'.cell? ⟨gb101, 1, none⟩ = some (.int .i64 x102001_1) ∧ w'.cell? ⟨gb101, 2, none⟩ = some (.slice (some ad106) x102002_1.length co16) ∧ w'.cell? (ad106.add ((x11_1).toNat * 3)) = some (.int .i64 ((rd_T24 x102002_1 x11_1).f0)) ∧ w'.cell? ⟨(ad106.add ((x11_1).toNat * 3)).block, (ad106.add ((x11_1).toNat * 3)).off + 1, none⟩ = some (.int .i64 ((rd_T24 x102002_1 x11_1).f1)) ∧ w'.cell? ⟨(ad106.add ((x11_1).toNat * 3)).block, (ad106.add ((x11_1).toNat * 3)).off + 2, none⟩ = some (.slice A106_2 ((rd_T24 x102002_1 x11_1).f2).length c106_2)) (ds := [10]) #[false, false, false, false, false, false, false, false, false, false, false] (by kernel_rfl) rfl rfl ⟨(blk_cell BK101.out 0).trans rfl, (blk_cell BK101.out 1).trans rfl, (blk_cell BK101.out 2).trans rfl, hx106_0, hx106_1, hx106_2⟩ (fun hHeld => ?_); refine with_tabW term_Own.tab5 term_Own.bits5 (fun HT_ HW_ => ?_)
      generalize wr.drew = w15 at HO_102002 BK101 BK102 HB HL106_2 HR106_2 hx106_0 hx106_1 hx106_2 hHeld ⊢
      refine pure_ (i := 0) (N := some 14) (v := ?_) (a' := ?_) (bt_ 11 1) rfl rfl (any_of HT_.out (by kernel_rfl)) (fun _ _ _ h => h) (Or.inl ⟨by rfl, ?_⟩) ?_ ?_
      rotate_left
      ·intro w'
       go_simp
       with_reducible rfl
      rotate_left
      ·simp only [pt_]
       rfl
      refine pure_ (i := 2) (N := some 16) (v := ?_) (a' := ?_) (bt_ 11 5) rfl rfl (any_of HT_.out (by kernel_rfl)) (fun _ _ _ h => h) (Or.inl ⟨by rfl, ?_⟩) ?_ ?_
      rotate_left
      ·intro w'
       go_simp
       with_reducible rfl
      rotate_left
      ·simp only [pt_]
       rfl
      refine pure_ (i := 3) (N := some 17) (v := ?_) (a' := ?_) (bt_ 11 13) rfl rfl (any_of HT_.out (by kernel_rfl)) (fun _ _ _ h => h) (Or.inl ⟨by rfl, ?_⟩) ?_ ?_
      rotate_left
      ·intro w'
       go_simp
       with_reducible rfl
      rotate_left
      ·simp only [pt_]
       rfl
      refine pure_ (i := 5) (N := some 19) (v := ?_) (a' := ?_) (bt_ 11 45) rfl rfl (any_of HT_.out (by kernel_rfl)) (fun _ _ _ h => h) (Or.inl ⟨by rfl, ?_⟩) ?_ ?_
      rotate_left
      ·intro w'
       go_simp
       with_reducible rfl
      rotate_left
      ·simp only [pt_]
       rfl
      refine take_ (i := 1) (N := some 15) (v := ?_) (a' := ?_) (bt_ 11 47) rfl rfl (take_ofW HT_.out HW_.out (by kernel_rfl)) (fun _ _ _ h => h) (Or.inl ⟨by rfl, ?_⟩) hHeld ?_ ?_
      rotate_left
      ·rintro w' ⟨s0, s1, s2, s3, s4, s5⟩
       go_simp
       with_reducible rfl
      rotate_left
      ·simp only [pt_]
       rfl
      refine take_ (i := 4) (N := some 18) (v := ?_) (a' := ?_) (bt_ 11 63) rfl rfl (take_ofW HT_.out HW_.out (by kernel_rfl)) (fun _ _ _ h => h) (Or.inl ⟨by rfl, ?_⟩) hHeld ?_ ?_
      rotate_left
      ·rintro w' ⟨s0, s1, s2, s3, s4, s5⟩
       go_simp
       with_reducible rfl
      rotate_left
      ·simp only [pt_]
       rfl
      refine pure_ (i := 6) (N := some 20) (v := ?_) (a' := ?_) (bt_ 11 127) rfl rfl (any_of HT_.out (by kernel_rfl)) (fun _ _ _ h => h) (Or.inl ⟨by rfl, ?_⟩) ?_ ?_
      rotate_left
      ·intro w'
       go_simp
       with_reducible rfl
      rotate_left
      ·simp only [pt_]
       rfl
      refine take_ (i := 7) (N := some 21) (v := ?_) (a' := ?_) (bt_ 11 255) rfl rfl (take_ofW HT_.out HW_.out (by kernel_rfl)) (fun _ _ _ h => h) (Or.inl ⟨by rfl, ?_⟩) hHeld ?_ ?_
      rotate_left
      ·rintro w' ⟨s0, s1, s2, s3, s4, s5⟩
       go_simp
       with_reducible rfl
      rotate_left
      ·simp only [pt_]
       rfl
      refine one_ (i := 8) (N := some 22) (bt_ 11 511) rfl rfl (one_of HT_.out (by kernel_rfl)) (by decide) (fun K hK => ?_)
      refine goes_ Tryz.func56 (by kernel_rfl) rfl #[.agg #[.int .i64 ((rd_T24 x102002_1 x11_1).f0), .int .i64 ((rd_T24 x102002_1 x11_1).f1), .slice A106_2 ((rd_T24 x102002_1 x11_1).f2).length c106_2]] (by rfl) rfl rfl (by (try simp only [List.map_toArray, List.map_cons, List.map_nil]); first | done | rfl | (simp only [List.length_drop, List.length_take]; rfl)) ?_
      with_reducible refine (ih k1 (by have := HK1.out; omega) ((rd_T24 x102002_1 x11_1).f0) ((rd_T24 x102002_1 x11_1).f1) (fun k_ => (((P0_2_ k_ ∨ w.heap.size ≤ k_) ∧ (k_ ≠ gb101 ∧ k_ ≠ gb102)) ∧ some k_ ≠ (.slice (some ad106) x102002_1.length co16 : Value).ownBlock)) _ _ ((rd_T24 x102002_1 x11_1).f2) t107 t108 t109 _ ?side1 A13.out).mono ?_
      (case side1 => exact HL106_2.out)
      rintro e w17 ⟨v110, rfl, ho0, hb⟩
      have HS3_ := (hb.cell (World.block_lt_of_cell? _ _ (hHeld.2.2.2.1))).trans (hHeld.2.2.2.1)
      have HS4_ := (hb.cell (World.block_lt_of_cell? _ _ (hHeld.2.2.2.2.1))).trans (hHeld.2.2.2.2.1)
      have HS5_ := (hb.cell (World.block_lt_of_cell? _ _ (hHeld.2.2.2.2.2))).trans (hHeld.2.2.2.2.2)
      refine ⟨_, rfl, ?_⟩
      have n0_ := aq_ (Kd.N_elder' (by (with_reducible repeat (first | apply Kd.N_alloc | apply Kd.N_drewN | apply Kd.N_drew)); exact HO_102002.out) (by first | exact Kd.N_base ho0 | exact Kd.N_base (Kd.R_N ho0)) hb)
      have n1_ := aq_ (Kd.V_elder' (by (with_reducible repeat (first | apply Kd.V_alloc | apply Kd.V_drewN | apply Kd.V_drew)); exact HL106_2.out) (by first | exact Kd.N_base ho0 | exact Kd.N_base (Kd.R_N ho0)) hb)
      have n2_ := aq_ (Kd.N_lower (Kd.N_mono (ok' := fun k_ => (P0_2_ k_ ∨ w.heap.size ≤ k_) ∧ some k_ ≠ (.slice (some ad106) x102002_1.length co16 : Value).ownBlock ∧ k_ ≠ gb101 ∧ k_ ≠ gb102) ho0 (fun k_ hk_ => ⟨Or.elim hk_ (fun hs_ => hs_.1.1) (fun hn_ => (.inr (Nat.le_trans (below_size (by repeat (first | (with_reducible first | exact HB.out | apply below_alloc | apply pw_below_drewN | apply below_drew1 | refine below_set ?_ GE101.out | refine below_set ?_ GE102.out) | exact HB.out))) hn_))), Or.elim hk_ (fun hs_ => hs_.2) (fun hn_ => (Kd.fresh' (Kd.N_lt (by (with_reducible repeat (first | apply Kd.N_alloc | apply Kd.N_drewN | apply Kd.N_drew)); exact HO_102002.out)) k_ hn_)), Or.elim hk_ (fun hs_ => hs_.1.2.1) (fun hn_ => (Kd.freshB (g := gb101) (o := .cells #[.int .i64 x102000_1, .int .i64 x102001_1, .slice (some ad106) x102002_1.length co16] 36 (0, 0)) (by (with_reducible repeat (first | refine blk_drewN ?_ _ | refine blk_drew ?_ | refine blk_alloc ?_ _)); exact BK101.out) k_ hn_)), Or.elim hk_ (fun hs_ => hs_.1.2.2) (fun hn_ => (Kd.freshB (g := gb102) (o := .cells #[.int .i64 x103000_1, .int .i64 x103001_1, .slice none 0 0] 36 (0, 0)) (by (with_reducible repeat (first | refine blk_drewN ?_ _ | refine blk_drew ?_ | refine blk_alloc ?_ _)); exact BK102.out) k_ hn_))⟩)) (below_size (by repeat (first | (with_reducible first | exact HB.out | apply below_alloc | apply pw_below_drewN | apply below_drew1 | refine below_set ?_ GE101.out | refine below_set ?_ GE102.out) | exact HB.out))))
      have n3_ := aq_ (blk_below (g := gb101) (o := .cells #[.int .i64 x102000_1, .int .i64 x102001_1, .slice (some ad106) x102002_1.length co16] 36 (0, 0)) (by (with_reducible repeat (first | refine blk_drewN ?_ _ | refine blk_drew ?_ | refine blk_alloc ?_ _)); exact BK101.out) hb)
      have n4_ := aq_ (blk_below (g := gb102) (o := .cells #[.int .i64 x103000_1, .int .i64 x103001_1, .slice none 0 0] 36 (0, 0)) (by (with_reducible repeat (first | refine blk_drewN ?_ _ | refine blk_drew ?_ | refine blk_alloc ?_ _)); exact BK102.out) hb)
      have n5_ := aq_ (Kd.C_below (by repeat (first | (with_reducible exact HR106_2.out) | (with_reducible refine Kd.C_alloc ?_ _) | (with_reducible refine Kd.C_drewN ?_ _) | (with_reducible refine Kd.C_drew ?_) | exact HR106_2.out)) hb)
      have n6_ := aq_ (below_step (by repeat (first | (with_reducible first | exact HB.out | apply below_alloc | apply pw_below_drewN | apply below_drew1 | refine below_set ?_ GE101.out | refine below_set ?_ GE102.out) | exact HB.out)) hb)
      clear HO_102002
      clear HL106_2
      clear BK101
      clear BK102
      clear HR106_2
      clear HB
      have HO_102002 := n0_
      have HL106_2 := n1_
      have HO111 := n2_
      have BK101 := n3_
      have BK102 := n4_
      have HR106_2 := n5_
      have HB := n6_
      clear n0_ n1_ n2_ n3_ n4_ n5_ n6_
      (try clear hb)
      (try clear hb2)
      (try clear hk)
      (try clear hi)
      (try clear ho0)
      have p14 : 0 ≤ (x11_1 : Int) := of_decide_eq_true (by first | (with_reducible assumption) | assumption)
      have q14 : (x11_1 : Int) < ((x102002_1.length : Int) : Int) := of_decide_eq_true (by first | (with_reducible assumption) | assumption)
      obtain ⟨go14, co14, eo14, gb14, gl14, cl14, HG14⟩ := Kd.N_form HO_102002.out (by omega)
      (first | cases eo14 | (injection eo14 with ea_ en_ ec_; (first | subst ea_ | (injection ea_ with ea_; subst ea_)); subst ec_; clear en_))
      have GB14 := aq_ gb14
      have GG14 := aq_ HG14
      clear gb14 gl14 HG14
      (first | simp only [add_plain] at hx106_0 | skip)
      (first | simp only [add_plain] at hx106_1 | skip)
      (first | simp only [add_plain] at hx106_2 | skip)
      obtain ⟨ce14, hcl14, hM14, hcc14, hfr14⟩ := Kd.N_elem HO_102002.out z24 (x11_1 : Int) p14 q14
      obtain ⟨ua14_2, uc14_2, rfl, ul14_2, ge14_2⟩ := k24_openF hM14
      have hx14_0 : World.cell? _ ⟨go14, (x11_1 : Int).toNat * 3, none⟩ = some (.int .i64 ((rd_T24 x102002_1 x11_1).f0)) := hcc14 0 _ rfl
      have hx14_1 : World.cell? _ ⟨go14, (x11_1 : Int).toNat * 3 + 1, none⟩ = some (.int .i64 ((rd_T24 x102002_1 x11_1).f1)) := hcc14 1 _ rfl
      have hx14_2 : World.cell? _ ⟨go14, (x11_1 : Int).toNat * 3 + 2, none⟩ = some (.slice ua14_2 ((rd_T24 x102002_1 x11_1).f2).length uc14_2) := hcc14 2 _ rfl
      have hf14_0 : World.frozen? _ ⟨go14, (x11_1 : Int).toNat * 3, none⟩ = false := hfr14 0
      have hf14_1 : World.frozen? _ ⟨go14, (x11_1 : Int).toNat * 3 + 1, none⟩ = false := hfr14 1
      have hf14_2 : World.frozen? _ ⟨go14, (x11_1 : Int).toNat * 3 + 2, none⟩ = false := hfr14 2
      clear hcl14 hcc14 hfr14 hM14
      replace p14 := eq_true p14
      replace q14 := eq_true q14
      have HX18 := aq_ (show Kd.N k24 36 _ w.heap.size (fun k_ => (P0_2_ k_ ∨ w.heap.size ≤ k_) ∧ some k_ ≠ (v110 : Value).ownBlock ∧ k_ ≠ gb101 ∧ k_ ≠ gb102) (.slice (some ⟨go14, 0, none⟩) x102002_1.length co16) x102002_1 from (Kd.N_mono (HO_102002.out) (fun k_ hk => ⟨hk.1.1, ⟨hk.2, ⟨hk.1.2.1, hk.1.2.2⟩⟩⟩)))
      replace HX18 := aq_ (show Kd.N k24 36 _ w.heap.size (fun k_ => (P0_2_ k_ ∨ w.heap.size ≤ k_) ∧ k_ ≠ gb101 ∧ k_ ≠ gb102) (.slice (some ⟨go14, 0, none⟩) x102002_1.length co16) x102002_1 from Kd.N_mono HX18.out (fun k_ hk => ⟨hk.1, ⟨hk.2.2.1, hk.2.2.2⟩⟩))
      obtain ⟨ce18, hcl18, hM18, hcc18, hfr18⟩ := Kd.N_elem HX18.out z24 (x11_1 : Int) (of_decide_eq_true (by first | (with_reducible assumption) | assumption)) (by have h_ : (x11_1 : Int) < ((x102002_1.length : Int) : Int) := of_decide_eq_true (by first | (with_reducible assumption) | assumption); first | exact h_ | (have e_ := (Kd.N_reads' HO_102002.out).1; omega) | simpa using h_)
      obtain ⟨ua18_2, uc18_2, rfl, ul18_2, ge18_2⟩ := k24_openF hM18
      obtain ⟨Ao_v110, co_v110, eo_v110⟩ := Kd.N_slice HO111.out
      subst eo_v110
      have HP18 := (Kd.N_seg HX18.out (x11_1 : Int) (of_decide_eq_true (by first | (with_reducible assumption) | assumption)) (by have h_ : (x11_1 : Int) < ((x102002_1.length : Int) : Int) := of_decide_eq_true (by first | (with_reducible assumption) | assumption); first | exact h_ | (have e_ := (Kd.N_reads' HO_102002.out).1; omega) | simpa using h_) (seg := [.int .i64 t107, .int .i64 t108, (.slice Ao_v110 t109.length co_v110)]) (j := 0) hcl18 hcc18 (show 3 ≤ 3 from by decide) (x' := (⟨t107, t108, t109⟩ : S24)) (k24_mkF _ _ (⟨t107, t108, t109⟩ : S24) (Kd.N_reads' (Kd.N_mono (ok' := (fun k_ => ((fun k_ => (P0_2_ k_ ∨ w.heap.size ≤ k_) ∧ k_ ≠ gb101 ∧ k_ ≠ gb102)) k_ ∧ k_ ≠ go14)) (HO111.out) (fun k_ hk => ⟨⟨hk.1, ⟨hk.2.2.1, hk.2.2.2⟩⟩, fun e_ => (hk.2.1) (by rw [e_]; rfl)⟩))).2.1 (Kd.N_F (Kd.N_mono (ok' := (fun k_ => ((fun k_ => (P0_2_ k_ ∨ w.heap.size ≤ k_) ∧ k_ ≠ gb101 ∧ k_ ≠ gb102)) k_ ∧ k_ ≠ go14)) (HO111.out) (fun k_ hk => ⟨⟨hk.1, ⟨hk.2.2.1, hk.2.2.2⟩⟩, fun e_ => (hk.2.1) (by rw [e_]; rfl)⟩)))) (fun _ hk => hk)).1
      rw [← Ny112.out] at HP18
      have HQ18 := aq_ HP18
      clear hcl18 hcc18 hfr18 hM18 HP18
      refine hK.out _ _ ⟨(blk_cell BK101.out 0).trans rfl, (blk_cell BK101.out 1).trans rfl, (blk_cell BK101.out 2).trans rfl, HS3_, HS4_, HS5_⟩ (fun hHeld => ?_)
      clear hK K
      refine norm_ (a' := ?_) ?_ ?_
      rotate_left
      ·show Act.put _ (some 22) _ = _
       simp only [pt_]
       rfl
      refine pure_ (i := 9) (N := some 23) (v := ?_) (a' := ?_) (bt_ 11 1023) rfl rfl (any_of HT_.out (by kernel_rfl)) (fun _ _ _ h => h) (Or.inl ⟨by rfl, ?_⟩) ?_ ?_
      rotate_left
      ·intro w'
       go_simp
       with_reducible rfl
      rotate_left
      ·simp only [pt_]
       rfl
      refine last_ (i := 10) (N := none) (bt_ 11 2047) rfl rfl (one_of HT_.out (by kernel_rfl)) (by decide) (fun K hK => ?_)
      refine skip_ (w1 := ?_) (by rfl) rfl ?_ ?_
      rotate_left
      ·go_simp
       rfl
      refine hK.out _ _ ?_
      clear hK K
      refine done_ (done_of HT_.out (by kernel_rfl)) ?_
      try go_wp2
      go_roundg k1
      case measure => have := HK1.out; omega
      case rel => exact ⟨(wrap64 (x11_1 + 1)), (x102000_1), (x102001_1), (y112), (x103000_1), (x103001_1), (.slice (some ⟨go14, 0, none⟩) x102002_1.length co16), (by first | rfl | (simp; done) | (simp [*]; done)), H', ⟨by have := HK1.out; omega⟩, ⟨by (with_reducible repeat (first | apply Kd.N_alloc | apply Kd.N_drewN | apply Kd.N_drew)); exact HQ18.out⟩, ⟨by (with_reducible repeat (first | refine blk_drewN ?_ _ | refine blk_drew ?_ | refine blk_alloc ?_ _)); refine blk_far ?_ (by have h_ := Kd.N_away HO_102002.out (fun _ hk => by first | exact hk.2.1 | exact hk.1.2.1); intro e_; exact h_ (by rw [e_]; rfl)) _; (with_reducible repeat (first | refine blk_drewN ?_ _ | refine blk_drew ?_ | refine blk_alloc ?_ _)); refine blk_far ?_ (by have h_ := Kd.N_away HO_102002.out (fun _ hk => by first | exact hk.2.1 | exact hk.1.2.1); intro e_; exact h_ (by rw [e_]; rfl)) _; (with_reducible repeat (first | refine blk_drewN ?_ _ | refine blk_drew ?_ | refine blk_alloc ?_ _)); refine blk_far ?_ (by have h_ := Kd.N_away HO_102002.out (fun _ hk => by first | exact hk.2.1 | exact hk.1.2.1); intro e_; exact h_ (by rw [e_]; rfl)) _; (with_reducible repeat (first | refine blk_drewN ?_ _ | refine blk_drew ?_ | refine blk_alloc ?_ _)); exact BK101.out⟩, ⟨by (with_reducible repeat (first | refine blk_drewN ?_ _ | refine blk_drew ?_ | refine blk_alloc ?_ _)); refine blk_far ?_ (by have h_ := Kd.N_away HO_102002.out (fun _ hk => by first | exact hk.2.2 | exact hk.1.2.2); intro e_; exact h_ (by rw [e_]; rfl)) _; (with_reducible repeat (first | refine blk_drewN ?_ _ | refine blk_drew ?_ | refine blk_alloc ?_ _)); refine blk_far ?_ (by have h_ := Kd.N_away HO_102002.out (fun _ hk => by first | exact hk.2.2 | exact hk.1.2.2); intro e_; exact h_ (by rw [e_]; rfl)) _; (with_reducible repeat (first | refine blk_drewN ?_ _ | refine blk_drew ?_ | refine blk_alloc ?_ _)); refine blk_far ?_ (by have h_ := Kd.N_away HO_102002.out (fun _ hk => by first | exact hk.2.2 | exact hk.1.2.2); intro e_; exact h_ (by rw [e_]; rfl)) _; (with_reducible repeat (first | refine blk_drewN ?_ _ | refine blk_drew ?_ | refine blk_alloc ?_ _)); exact BK102.out⟩, ⟨by repeat (first | (with_reducible first | exact HB.out | apply below_alloc | apply pw_below_drewN | apply below_drew1 | refine below_set ?_ GB14.out | refine below_set ?_ GB14.out | refine below_set ?_ GB14.out | refine below_set ?_ GE101.out | refine below_set ?_ GE102.out) | exact HB.out)⟩⟩
     ·rw [if_neg c12] at H
      exact absurd H (by simp)
    ·rw [if_neg c11] at H
     exact absurd H (by simp)
   ·rw [if_neg c10] at H
    have c10b0 : decide (x11_1 < (t103.length : Int)) = false := decide_eq_false c10
    clear c10
    simp only [Option.some.injEq, Prod.mk.injEq] at H
    obtain ⟨rfl, rfl, rfl⟩ := H
    have hnb19 := NB101_102.out
    have hnc19 := NB102_101.out
    have hcz20_0 : wr.cell? ⟨gb101, 0, none⟩ = some (.int .i64 x102000_1) := (blk_cell BK101.out 0).trans rfl
    have hcz20_1 : wr.cell? ⟨gb101, 1, none⟩ = some (.int .i64 x102001_1) := (blk_cell BK101.out 1).trans rfl
    have hcz20_2 : wr.cell? ⟨gb101, 2, none⟩ = some (u102002) := (blk_cell BK101.out 2).trans rfl
    have hfz20_0 := blk_frozen BK101.out 0
    have hfz20_1 := blk_frozen BK101.out 1
    have hfz20_2 := blk_frozen BK101.out 2
    have hcz21_0 : wr.cell? ⟨gb102, 0, none⟩ = some (.int .i64 x103000_1) := (blk_cell BK102.out 0).trans rfl
    have hcz21_1 : wr.cell? ⟨gb102, 1, none⟩ = some (.int .i64 x103001_1) := (blk_cell BK102.out 1).trans rfl
    have hcz21_2 : wr.cell? ⟨gb102, 2, none⟩ = some (.slice none 0 0) := (blk_cell BK102.out 2).trans rfl
    have hfz21_0 := blk_frozen BK102.out 0
    have hfz21_1 := blk_frozen BK102.out 1
    have hfz21_2 := blk_frozen BK102.out 2
    obtain ⟨Ao22, co22, eo22⟩ := Kd.N_slice HO_102002.out
    subst eo22
    go_wp2
    refine bodyPost_ret (results_cell_row rfl _ _ gb102 36 #[.int .i64 x102000_1, .int .i64 x102001_1, .slice Ao22 x102002_1.length co22] (0, 0) _ rfl (by (with_reducible repeat (first | refine blk_drewN ?_ _ | refine blk_drew ?_ | refine blk_alloc ?_ _)); refine blk_put (cs := #[.int .i64 x102000_1, .int .i64 x102001_1, .slice none 0 0]) ?_ 2 _ rfl; (with_reducible repeat (first | refine blk_drewN ?_ _ | refine blk_drew ?_ | refine blk_alloc ?_ _)); refine blk_put (cs := #[.int .i64 x102000_1, .int .i64 x103001_1, .slice none 0 0]) ?_ 1 _ rfl; (with_reducible repeat (first | refine blk_drewN ?_ _ | refine blk_drew ?_ | refine blk_alloc ?_ _)); refine blk_put (cs := #[.int .i64 x103000_1, .int .i64 x103001_1, .slice none 0 0]) ?_ 0 _ rfl; (with_reducible repeat (first | refine blk_drewN ?_ _ | refine blk_drew ?_ | refine blk_alloc ?_ _)); exact BK102.out) Tryz.underlying36 rfl (by kernel_rfl)) rfl ?_
    exact ⟨_, by first | rfl | (simp [errW_none, errW_some] <;> rfl) | (simp [*, errW_none, errW_some] <;> rfl), by (with_reducible repeat (first | apply Kd.N_alloc | apply Kd.N_drewN | apply Kd.N_drew)); exact Kd.N_mono (Kd.N_far (p := ⟨gb102, 2, none⟩) (Kd.N_far (p := ⟨gb102, 1, none⟩) (Kd.N_far (p := ⟨gb102, 0, none⟩) (Kd.N_mono HO_102002.out (fun k_ hk => (⟨hk, hk.2.2⟩ : _ ∧ k_ ≠ gb102))) (fun _ hk => hk.2) (.int .i64 x102000_1)) (fun _ hk => hk.2) (.int .i64 x102001_1)) (fun _ hk => hk.2) (.slice Ao22 x102002_1.length co22)) (fun _ hk => hk.1.1), by repeat (first | (with_reducible first | exact HB.out | apply below_alloc | apply pw_below_drewN | apply below_drew1 | refine below_set ?_ GE101.out | refine below_set ?_ GE102.out) | exact HB.out)⟩
end Go.Proofs.YtdinphnljokigaaGreat.P
end
