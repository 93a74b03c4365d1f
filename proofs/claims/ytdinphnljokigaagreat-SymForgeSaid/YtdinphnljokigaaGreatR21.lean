/- What LawSymForge rests on, part 21: several texts put together. -/
import Derived.Test.YtdinphnljokigaaGreatR17
import Derived.Test.YtdinphnljokigaaGreatR19
import Derived.Test.YtdinphnljokigaaGreatR20
import Derived.Test.YtdinphnljokigaaGreatR2
set_option linter.unusedVariables false
set_option linter.unnecessarySimpa false
set_option linter.unusedSimpArgs false
set_option maxRecDepth 100000
section
namespace Go.Proofs.YtdinphnljokigaaGreat.P
open Go.RowKit Go.Lib Go.Proofs.YtdinphnljokigaaGreatW.PrintWords Go.Proofs.YtdinphnljokigaaGreatW.PrintLast Go.Proofs.YtdinphnljokigaaGreatW.PrintMore
structure Don where
 user : Int
 epoch : Int
 draw : Int
 cn : Int
 count : Int
 cmd : Int
 arg : Int
theorem Don.eq_iff (a b : Don) : a = b ↔ (a.user = b.user ∧ a.epoch = b.epoch ∧ a.draw = b.draw ∧ a.cn = b.cn ∧ a.count = b.count ∧ a.cmd = b.cmd ∧ a.arg = b.arg) := by
 constructor
 ·rintro rfl
  exact ⟨rfl, rfl, rfl, rfl, rfl, rfl, rfl⟩
 ·obtain ⟨a0, a1, a2, a3, a4, a5, a6⟩ := a
  obtain ⟨b0, b1, b2, b3, b4, b5, b6⟩ := b
  rintro ⟨h0, h1, h2, h3, h4, h5, h6⟩
  dsimp only at h0 h1 h2 h3 h4 h5 h6
  subst h0 h1 h2 h3 h4 h5 h6
  rfl
instance : DecidableEq Don := fun a b => decidable_of_iff _ (Don.eq_iff a b).symm
def zdon : Don := ⟨0, 0, 0, 0, 0, 0, 0⟩
def dcl (x : Don) : List Value := [.int .i64 x.user, .int .i64 x.epoch, .int .u64 x.draw, .int .u64 x.cn, .int .u64 x.count, .int .i64 x.cmd, .int .i64 x.arg]
def kD : Kd Don where
 sz := 7
 E := []
 K := fun _ x cs => cs = dcl x
 M := fun _ _ _ x cs => cs = dcl x
 K_len := fun h => by rw [h]; rfl
 K_one := fun h u hu => by
  rw [h] at hu
  simp only [dcl, List.mem_cons, List.not_mem_nil, or_false] at hu
  rcases hu with rfl | rfl | rfl | rfl | rfl | rfl | rfl <;> rfl
 K_below := fun _ h => h
 K_of_M := fun h => h
 M_mono := fun _ h => h
 M_bound := fun h => h
 M_move := fun _ h => h
 M_lower := fun _ h => h
theorem infoD : (Tryz.prog.info? 48).map (fun i => (i.zero, i.size, i.bytes)) = some (some (.agg #[.int .i64 0, .int .i64 0, .int .u64 0, .int .u64 0, .int .u64 0, .int .i64 0, .int .i64 0]), 7, 56) := by kernel_rfl
theorem at_D {w : World} {A : Option Addr} {n : Nat} {l : List Don} (h : kD.C w A n l) (i : Nat) (hi : i < n) (x : Don) (hx : l[i]? = some x) :
  ∃ ad, A = some ad ∧ w.cell? (ad.add (i * 7)) = some (.int .i64 x.user) ∧ w.cell? ⟨(ad.add (i * 7)).block, (ad.add (i * 7)).off + 1, none⟩ = some (.int .i64 x.epoch) ∧ w.cell? ⟨(ad.add (i * 7)).block, (ad.add (i * 7)).off + 2, none⟩ = some (.int .u64 x.draw) ∧ w.cell? ⟨(ad.add (i * 7)).block, (ad.add (i * 7)).off + 3, none⟩ = some (.int .u64 x.cn) ∧ w.cell? ⟨(ad.add (i * 7)).block, (ad.add (i * 7)).off + 4, none⟩ = some (.int .u64 x.count) ∧ w.cell? ⟨(ad.add (i * 7)).block, (ad.add (i * 7)).off + 5, none⟩ = some (.int .i64 x.cmd) ∧ w.cell? ⟨(ad.add (i * 7)).block, (ad.add (i * 7)).off + 6, none⟩ = some (.int .i64 x.arg) := by
 obtain ⟨ad, c, e, _, hK, hc0⟩ := Kd.C_get h zdon (i : Int) (by omega) (by omega)
 have hK : c = dcl x := by
  have hK' : c = dcl (l.getD (i : Int).toNat zdon) := hK
  rw [Int.toNat_natCast, List.getD_eq_getElem?_getD, hx] at hK'
  exact hK'
 subst hK
 have hc : ∀ j v, (dcl x)[j]? = some v → w.cell? (ad.add (i * 7 + j)) = some v := fun j v hv => hc0 j v hv
 exact ⟨ad, e, hc 0 _ rfl, by rw [← add_field _ _ 1 (by omega)]; exact hc 1 _ rfl, by rw [← add_field _ _ 2 (by omega)]; exact hc 2 _ rfl, by rw [← add_field _ _ 3 (by omega)]; exact hc 3 _ rfl, by rw [← add_field _ _ 4 (by omega)]; exact hc 4 _ rfl, by rw [← add_field _ _ 5 (by omega)]; exact hc 5 _ rfl, by rw [← add_field _ _ 6 (by omega)]; exact hc 6 _ rfl⟩
theorem eq_don (w : World) (d : Nat) (x y : Don) : (Op.equalIn (d + 3) 48 (.agg #[.int .i64 x.user, .int .i64 x.epoch, .int .u64 x.draw, .int .u64 x.cn, .int .u64 x.count, .int .i64 x.cmd, .int .i64 x.arg]) (.agg #[.int .i64 y.user, .int .i64 y.epoch, .int .u64 y.draw, .int .u64 y.cn, .int .u64 y.count, .int .i64 y.cmd, .int .i64 y.arg])).run Tryz.prog w = .ok (decide (x = y)) w := by
 have key : (Op.equalIn (d + 3) 48 (.agg #[.int .i64 x.user, .int .i64 x.epoch, .int .u64 x.draw, .int .u64 x.cn, .int .u64 x.count, .int .i64 x.cmd, .int .i64 x.arg]) (.agg #[.int .i64 y.user, .int .i64 y.epoch, .int .u64 y.draw, .int .u64 y.cn, .int .u64 y.count, .int .i64 y.cmd, .int .i64 y.arg])).run Tryz.prog w = .ok ((x.user == y.user) && ((x.epoch == y.epoch) && ((x.draw == y.draw) && ((x.cn == y.cn) && ((x.count == y.count) && ((x.cmd == y.cmd) && ((x.arg == y.arg)))))))) w := by
  refine eqA_of Tryz.underlying48 (by kernel_rfl) ?_
  refine eqf_cons (by rfl) (part_cell Tryz.underlying3 rfl rfl) (part_cell Tryz.underlying3 rfl rfl) (run_equalIn_int _ _ _ _ _ _ _ Tryz.underlying3) ?_
  refine eqf_cons (by rfl) (part_cell Tryz.underlying3 rfl rfl) (part_cell Tryz.underlying3 rfl rfl) (run_equalIn_int _ _ _ _ _ _ _ Tryz.underlying3) ?_
  refine eqf_cons (by rfl) (part_cell Tryz.underlying27 rfl rfl) (part_cell Tryz.underlying27 rfl rfl) (run_equalIn_int _ _ _ _ _ _ _ Tryz.underlying27) ?_
  refine eqf_cons (by rfl) (part_cell Tryz.underlying27 rfl rfl) (part_cell Tryz.underlying27 rfl rfl) (run_equalIn_int _ _ _ _ _ _ _ Tryz.underlying27) ?_
  refine eqf_cons (by rfl) (part_cell Tryz.underlying27 rfl rfl) (part_cell Tryz.underlying27 rfl rfl) (run_equalIn_int _ _ _ _ _ _ _ Tryz.underlying27) ?_
  refine eqf_cons (by rfl) (part_cell Tryz.underlying3 rfl rfl) (part_cell Tryz.underlying3 rfl rfl) (run_equalIn_int _ _ _ _ _ _ _ Tryz.underlying3) ?_
  exact eqf_last (by rfl) (part_cell Tryz.underlying3 rfl rfl) (part_cell Tryz.underlying3 rfl rfl) (run_equalIn_int _ _ _ _ _ _ _ Tryz.underlying3)
 rw [key]
 congr 1
 rw [Bool.eq_iff_iff, decide_eq_true_eq, Don.eq_iff]
 simp only [Bool.and_eq_true, beq_iff_eq]
theorem neq_don (w : World) (x y : Don) : (binOp .neq 48 (.agg #[.int .i64 x.user, .int .i64 x.epoch, .int .u64 x.draw, .int .u64 x.cn, .int .u64 x.count, .int .i64 x.cmd, .int .i64 x.arg]) (.agg #[.int .i64 y.user, .int .i64 y.epoch, .int .u64 y.draw, .int .u64 y.cn, .int .u64 y.count, .int .i64 y.cmd, .int .i64 y.arg])).run Tryz.prog w = .ok (.bool (!decide (x = y))) w := by
 show (do pure (Value.bool (!(← Op.equal 48 (.agg #[.int .i64 x.user, .int .i64 x.epoch, .int .u64 x.draw, .int .u64 x.cn, .int .u64 x.count, .int .i64 x.cmd, .int .i64 x.arg]) (.agg #[.int .i64 y.user, .int .i64 y.epoch, .int .u64 y.draw, .int .u64 y.cn, .int .u64 y.count, .int .i64 y.cmd, .int .i64 y.arg])))) : Sem Value).run Tryz.prog w = _
 have h : (Op.equal 48 (.agg #[.int .i64 x.user, .int .i64 x.epoch, .int .u64 x.draw, .int .u64 x.cn, .int .u64 x.count, .int .i64 x.cmd, .int .i64 x.arg]) (.agg #[.int .i64 y.user, .int .i64 y.epoch, .int .u64 y.draw, .int .u64 y.cn, .int .u64 y.count, .int .i64 y.cmd, .int .i64 y.arg])).run Tryz.prog w = .ok (decide (x = y)) w := eq_don w 9997 x y
 simp only [Sem.run_bind, h, Result.andThen_ok, Sem.run_pure]
theorem take_moreG {α : Type} {l k : List α} {i : Nat} {x : α} (h : l.take i = k.take i) (hx : l[i]? = some x) (hy : k[i]? = some x) : l.take (i + 1) = k.take (i + 1) := by
 rw [List.take_add_one, List.take_add_one, h, hx, hy]
theorem take_notG {α : Type} {l k : List α} {i : Nat} {x y : α} (hx : l[i]? = some x) (hy : k[i]? = some y) (h : x ≠ y) : l ≠ k := by
 rintro rfl
 rw [hx] at hy
 exact h (Option.some.inj hy)
theorem at_B {w : World} {A : Option Addr} {n : Nat} {l : List Int} (h : (Kd.int .u8).C w A n l) (i : Nat) (hi : i < n) (x : Int) (hx : l[i]? = some x) : ∃ ad, A = some ad ∧ w.cell? (ad.add i) = some (.int .u8 x) := by
 obtain ⟨ad, e, hc⟩ := Kd.at_int h (i : Int) (by omega) (by omega)
 rw [Int.toNat_natCast, rd, Int.toNat_natCast, List.getD_eq_getElem?_getD, hx] at hc
 exact ⟨ad, e, hc⟩
theorem eqg_don : Tryz.prog.eqGuardType Tryz.prog.depth 48 = false := by kernel_rfl
set_option maxHeartbeats 2000000 in
theorem beq_any (l k : List Int) (A B : Option Addr) (c d : Nat) (W : World) (hr : (Kd.int .u8).C W A l.length l) (hs : (Kd.int .u8).C W B k.length k) :
  Calls Tryz.prog 77 #[.slice A l.length c, .slice B k.length d] W fun e w' => e = .returned (.bool (decide (l = k))) ∧ Below W.heap.size W w' := by
 have hml : l.length ≤ 9223372036854775807 := hr.2.1
 have HC := aq_ hr
 have HD := aq_ hs
 have HB := aq_ (Below.refl W.heap.size W)
 clear hr hs
 by_cases hlen : l.length = k.length
 ·have HLEN := aq_ hlen
  have hl2 : (decide ((l.length : Int) = (k.length : Int))) = true := by simp [hlen]
  have hl3 : ((l.length : Int) == (k.length : Int)) = true := by simp [hlen]
  clear hlen
  go_enter Tryz.func77, Tryz.ntmps77
  go_wp2
  go_loopw [13] (fun v wr => ∃ i : Nat, i ≤ l.length ∧ v = .int .i64 i ∧ Aside0 (l.take i = k.take i) ∧ Aside0 (Below W.heap.size W wr)) (fun v _ => l.length - (intOf v).toNat)
  case atStart => exact ⟨0, by omega, rfl, ⟨rfl⟩, HB⟩
  case round =>
   clear HB
   obtain ⟨i, hi, rfl, HS, HB⟩ := hrel
   obtain ⟨wo, rfl⟩ : ∃ wo : World, wo = wr := ⟨_, rfl⟩
   by_cases hlt : i < l.length
   ·have hlt2 : i < k.length := by rw [← HLEN.out]; exact hlt
    obtain ⟨x, hx⟩ : ∃ x, l[i]? = some x := ⟨_, List.getElem?_eq_getElem hlt⟩
    obtain ⟨y, hy⟩ : ∃ y, k[i]? = some y := ⟨_, List.getElem?_eq_getElem hlt2⟩
    obtain ⟨ax, rfl, x0⟩ := at_B (Kd.C_below HC.out HB.out) i hlt x hx
    obtain ⟨ay, rfl, y0⟩ := at_B (Kd.C_below HD.out HB.out) i hlt2 y hy
    have H1 := aq_ hx
    have H2 := aq_ hy
    clear hx hy
    by_cases hxy : x = y
    ·have HT := aq_ (take_moreG HS.out H1.out (by rw [hxy]; exact H2.out))
     have n1 : (x != y) = false := by simp [hxy]
     clear hxy
     clear hl2 hl3
     go_wp2
     refine start_ (n := 9) (S := fun w' => w'.cell? (ax.add i) = some (.int .u8 x) ∧ w'.cell? (ay.add i) = some (.int .u8 y)) (ds := []) #[false, false, false, false, false, false, false, false, false] (by kernel_rfl) rfl rfl ⟨x0, y0⟩ (fun hHeld => ?_)
     refine pu_ 0 (some 16) ?_ (bt_ 9 1) rfl rfl (Or.inl ⟨by rfl, ?_⟩) ?_ ?_ ?_;rotate_left;(intro w';go_simp;with_reducible rfl);rotate_left;(simp only [pt_];rfl)
     refine pu_ 1 (some 17) ?_ (bt_ 9 3) rfl rfl (Or.inl ⟨by rfl, ?_⟩) ?_ ?_ ?_;rotate_left;(intro w';go_simp;with_reducible rfl);rotate_left;(simp only [pt_];rfl)
     refine pu_ 2 (some 18) ?_ (bt_ 9 7) rfl rfl (Or.inl ⟨by rfl, ?_⟩) ?_ ?_ ?_;rotate_left;(intro w';go_simp;with_reducible rfl);rotate_left;(simp only [pt_];rfl)
     refine pu_ 4 (some 20) ?_ (bt_ 9 23) rfl rfl (Or.inl ⟨by rfl, ?_⟩) ?_ ?_ ?_;rotate_left;(intro w';go_simp;with_reducible rfl);rotate_left;(simp only [pt_];rfl)
     refine pu_ 5 (some 21) ?_ (bt_ 9 55) rfl rfl (Or.inl ⟨by rfl, ?_⟩) ?_ ?_ ?_;rotate_left;(intro w';go_simp;with_reducible rfl);rotate_left;(simp only [pt_];rfl)
     refine pu_ 6 (some 22) ?_ (bt_ 9 119) rfl rfl (Or.inl ⟨by rfl, ?_⟩) ?_ ?_ ?_;rotate_left;(intro w';go_simp;with_reducible rfl);rotate_left;(simp only [pt_];rfl)
     refine ta_ 3 (some 19) ?_ (bt_ 9 127) rfl rfl (Or.inl ⟨by rfl, ?_⟩) hHeld ?_ ?_ ?_;rotate_left;(rintro w' ⟨s0, s1⟩;go_simp;with_reducible rfl);rotate_left;(simp only [pt_];rfl)
     refine ta_ 7 (some 23) ?_ (bt_ 9 255) rfl rfl (Or.inl ⟨by rfl, ?_⟩) hHeld ?_ ?_ ?_;rotate_left;(rintro w' ⟨s0, s1⟩;go_simp;with_reducible rfl);rotate_left;(simp only [pt_];rfl)
     refine pu_ 8 (some 24) ?_ (bt_ 9 511) rfl rfl (Or.inl ⟨by rfl, ?_⟩) ?_ ?_ ?_;rotate_left;(intro w';go_simp;with_reducible rfl);rotate_left;(simp only [pt_];rfl)
     refine done_ (by kernel_rfl) ?_
     have HB1 := aq_ (below_drew HB.out)
     go_wp2
     go_roundw
     case rel => exact ⟨i + 1, by omega, by go_num, HT, HB1⟩
     case measure => simp [intOf]; omega
    ·have HT := aq_ (take_notG H1.out H2.out hxy)
     have n1 : (x != y) = true := by simpa using hxy
     clear hl2 hl3 hxy
     go_wp2
     refine start_ (n := 9) (S := fun w' => w'.cell? (ax.add i) = some (.int .u8 x) ∧ w'.cell? (ay.add i) = some (.int .u8 y)) (ds := []) #[false, false, false, false, false, false, false, false, false] (by kernel_rfl) rfl rfl ⟨x0, y0⟩ (fun hHeld => ?_)
     refine pu_ 0 (some 16) ?_ (bt_ 9 1) rfl rfl (Or.inl ⟨by rfl, ?_⟩) ?_ ?_ ?_;rotate_left;(intro w';go_simp;with_reducible rfl);rotate_left;(simp only [pt_];rfl)
     refine pu_ 1 (some 17) ?_ (bt_ 9 3) rfl rfl (Or.inl ⟨by rfl, ?_⟩) ?_ ?_ ?_;rotate_left;(intro w';go_simp;with_reducible rfl);rotate_left;(simp only [pt_];rfl)
     refine pu_ 2 (some 18) ?_ (bt_ 9 7) rfl rfl (Or.inl ⟨by rfl, ?_⟩) ?_ ?_ ?_;rotate_left;(intro w';go_simp;with_reducible rfl);rotate_left;(simp only [pt_];rfl)
     refine pu_ 4 (some 20) ?_ (bt_ 9 23) rfl rfl (Or.inl ⟨by rfl, ?_⟩) ?_ ?_ ?_;rotate_left;(intro w';go_simp;with_reducible rfl);rotate_left;(simp only [pt_];rfl)
     refine pu_ 5 (some 21) ?_ (bt_ 9 55) rfl rfl (Or.inl ⟨by rfl, ?_⟩) ?_ ?_ ?_;rotate_left;(intro w';go_simp;with_reducible rfl);rotate_left;(simp only [pt_];rfl)
     refine pu_ 6 (some 22) ?_ (bt_ 9 119) rfl rfl (Or.inl ⟨by rfl, ?_⟩) ?_ ?_ ?_;rotate_left;(intro w';go_simp;with_reducible rfl);rotate_left;(simp only [pt_];rfl)
     refine ta_ 3 (some 19) ?_ (bt_ 9 127) rfl rfl (Or.inl ⟨by rfl, ?_⟩) hHeld ?_ ?_ ?_;rotate_left;(rintro w' ⟨s0, s1⟩;go_simp;with_reducible rfl);rotate_left;(simp only [pt_];rfl)
     refine ta_ 7 (some 23) ?_ (bt_ 9 255) rfl rfl (Or.inl ⟨by rfl, ?_⟩) hHeld ?_ ?_ ?_;rotate_left;(rintro w' ⟨s0, s1⟩;go_simp;with_reducible rfl);rotate_left;(simp only [pt_];rfl)
     refine pu_ 8 (some 24) ?_ (bt_ 9 511) rfl rfl (Or.inl ⟨by rfl, ?_⟩) ?_ ?_ ?_;rotate_left;(intro w';go_simp;with_reducible rfl);rotate_left;(simp only [pt_];rfl)
     refine done_ (by kernel_rfl) ?_
     have HB1 := aq_ (below_drew HB.out)
     go_wp2
     go_ret
     exact ⟨by rw [decide_eq_false HT.out]; rfl, HB1.out⟩
   ·obtain rfl : i = l.length := by omega
    have he : l = k := by
     have h := HS.out
     rw [List.take_length, HLEN.out, List.take_length] at h
     exact h
    have HE := aq_ he
    clear he
    go_wp2
    go_ret
    exact ⟨by rw [decide_eq_true HE.out]; rfl, HB.out⟩
 ·have hl3 : ((l.length : Int) == (k.length : Int)) = false := by simpa using (show ¬ ((l.length : Int) = (k.length : Int)) by omega)
  have hl2 : (decide ((l.length : Int) = (k.length : Int))) = false := decide_eq_false (by omega)
  have HN := aq_ (show l ≠ k from fun h => hlen (by rw [h]))
  clear hlen
  go_enter Tryz.func77, Tryz.ntmps77
  go_wp2
  go_ret
  exact ⟨by rw [decide_eq_false HN.out]; rfl, HB.out⟩
set_option maxHeartbeats 2000000 in
theorem deq_any (l k : List Don) (A B : Option Addr) (c d : Nat) (W : World) (hr : kD.C W A l.length l) (hs : kD.C W B k.length k) :
  Calls Tryz.prog 49 #[.slice A l.length c, .slice B k.length d] W fun e w' => e = .returned (.bool (decide (l = k))) ∧ Below W.heap.size W w' := by
 have hml : l.length ≤ 9223372036854775807 := hr.2.1
 have HC := aq_ hr
 have HD := aq_ hs
 have HB := aq_ (Below.refl W.heap.size W)
 clear hr hs
 have hg := eqg_don
 by_cases hlen : l.length = k.length
 ·have HLEN := aq_ hlen
  have hl2 : (decide ((l.length : Int) = (k.length : Int))) = true := by simp [hlen]
  have hl3 : ((l.length : Int) == (k.length : Int)) = true := by simp [hlen]
  clear hlen
  go_enter Tryz.func49, Tryz.ntmps49
  go_wp2
  go_loopw [13] (fun v wr => ∃ i : Nat, i ≤ l.length ∧ v = .int .i64 i ∧ Aside0 (l.take i = k.take i) ∧ Aside0 (Below W.heap.size W wr)) (fun v _ => l.length - (intOf v).toNat)
  case atStart => exact ⟨0, by omega, rfl, ⟨rfl⟩, HB⟩
  case round =>
   clear HB
   obtain ⟨i, hi, rfl, HS, HB⟩ := hrel
   obtain ⟨wo, rfl⟩ : ∃ wo : World, wo = wr := ⟨_, rfl⟩
   by_cases hlt : i < l.length
   ·have hlt2 : i < k.length := by rw [← HLEN.out]; exact hlt
    obtain ⟨x, hx⟩ : ∃ x, l[i]? = some x := ⟨_, List.getElem?_eq_getElem hlt⟩
    obtain ⟨y, hy⟩ : ∃ y, k[i]? = some y := ⟨_, List.getElem?_eq_getElem hlt2⟩
    obtain ⟨ax, rfl, x0, x1, x2, x3, x4, x5, x6⟩ := at_D (Kd.C_below HC.out HB.out) i hlt x hx
    obtain ⟨ay, rfl, y0, y1, y2, y3, y4, y5, y6⟩ := at_D (Kd.C_below HD.out HB.out) i hlt2 y hy
    have H1 := aq_ hx
    have H2 := aq_ hy
    clear hx hy
    by_cases hxy : x = y
    ·have HT := aq_ (take_moreG HS.out H1.out (by rw [hxy]; exact H2.out))
     have n1 := fun w => neq_don w x y
     rw [decide_eq_true hxy] at n1
     clear hxy
     clear hl2 hl3
     go_wp2
     refine start_ (n := 9) (S := fun w' => w'.cell? (ax.add (i * 7)) = some (.int .i64 x.user) ∧ w'.cell? ⟨(ax.add (i * 7)).block, (ax.add (i * 7)).off + 1, none⟩ = some (.int .i64 x.epoch) ∧ w'.cell? ⟨(ax.add (i * 7)).block, (ax.add (i * 7)).off + 2, none⟩ = some (.int .u64 x.draw) ∧ w'.cell? ⟨(ax.add (i * 7)).block, (ax.add (i * 7)).off + 3, none⟩ = some (.int .u64 x.cn) ∧ w'.cell? ⟨(ax.add (i * 7)).block, (ax.add (i * 7)).off + 4, none⟩ = some (.int .u64 x.count) ∧ w'.cell? ⟨(ax.add (i * 7)).block, (ax.add (i * 7)).off + 5, none⟩ = some (.int .i64 x.cmd) ∧ w'.cell? ⟨(ax.add (i * 7)).block, (ax.add (i * 7)).off + 6, none⟩ = some (.int .i64 x.arg) ∧ w'.cell? (ay.add (i * 7)) = some (.int .i64 y.user) ∧ w'.cell? ⟨(ay.add (i * 7)).block, (ay.add (i * 7)).off + 1, none⟩ = some (.int .i64 y.epoch) ∧ w'.cell? ⟨(ay.add (i * 7)).block, (ay.add (i * 7)).off + 2, none⟩ = some (.int .u64 y.draw) ∧ w'.cell? ⟨(ay.add (i * 7)).block, (ay.add (i * 7)).off + 3, none⟩ = some (.int .u64 y.cn) ∧ w'.cell? ⟨(ay.add (i * 7)).block, (ay.add (i * 7)).off + 4, none⟩ = some (.int .u64 y.count) ∧ w'.cell? ⟨(ay.add (i * 7)).block, (ay.add (i * 7)).off + 5, none⟩ = some (.int .i64 y.cmd) ∧ w'.cell? ⟨(ay.add (i * 7)).block, (ay.add (i * 7)).off + 6, none⟩ = some (.int .i64 y.arg)) (ds := []) #[false, false, false, false, false, false, false, false, false] (by kernel_rfl) rfl rfl ⟨x0, x1, x2, x3, x4, x5, x6, y0, y1, y2, y3, y4, y5, y6⟩ (fun hHeld => ?_)
     refine pu_ 0 (some 16) ?_ (bt_ 9 1) rfl rfl (Or.inl ⟨by rfl, ?_⟩) ?_ ?_ ?_;rotate_left;(intro w';go_simp;with_reducible rfl);rotate_left;(simp only [pt_];rfl)
     refine pu_ 1 (some 17) ?_ (bt_ 9 3) rfl rfl (Or.inl ⟨by rfl, ?_⟩) ?_ ?_ ?_;rotate_left;(intro w';go_simp;with_reducible rfl);rotate_left;(simp only [pt_];rfl)
     refine pu_ 2 (some 18) ?_ (bt_ 9 7) rfl rfl (Or.inl ⟨by rfl, ?_⟩) ?_ ?_ ?_;rotate_left;(intro w';go_simp;with_reducible rfl);rotate_left;(simp only [pt_];rfl)
     refine pu_ 4 (some 20) ?_ (bt_ 9 23) rfl rfl (Or.inl ⟨by rfl, ?_⟩) ?_ ?_ ?_;rotate_left;(intro w';go_simp;with_reducible rfl);rotate_left;(simp only [pt_];rfl)
     refine pu_ 5 (some 21) ?_ (bt_ 9 55) rfl rfl (Or.inl ⟨by rfl, ?_⟩) ?_ ?_ ?_;rotate_left;(intro w';go_simp;with_reducible rfl);rotate_left;(simp only [pt_];rfl)
     refine pu_ 6 (some 22) ?_ (bt_ 9 119) rfl rfl (Or.inl ⟨by rfl, ?_⟩) ?_ ?_ ?_;rotate_left;(intro w';go_simp;with_reducible rfl);rotate_left;(simp only [pt_];rfl)
     refine ta_ 3 (some 19) ?_ (bt_ 9 127) rfl rfl (Or.inl ⟨by rfl, ?_⟩) hHeld ?_ ?_ ?_;rotate_left;(rintro w' ⟨s0, s1, s2, s3, s4, s5, s6, s7, s8, s9, s10, s11, s12, s13⟩;go_simp;with_reducible rfl);rotate_left;(simp only [pt_];rfl)
     refine ta_ 7 (some 23) ?_ (bt_ 9 255) rfl rfl (Or.inl ⟨by rfl, ?_⟩) hHeld ?_ ?_ ?_;rotate_left;(rintro w' ⟨s0, s1, s2, s3, s4, s5, s6, s7, s8, s9, s10, s11, s12, s13⟩;go_simp;with_reducible rfl);rotate_left;(simp only [pt_];rfl)
     refine pu_ 8 (some 24) ?_ (bt_ 9 511) rfl rfl (Or.inl ⟨by rfl, ?_⟩) ?_ ?_ ?_;rotate_left;(intro w';go_simp;with_reducible rfl);rotate_left;(simp only [pt_];rfl)
     refine done_ (by kernel_rfl) ?_
     have HB1 := aq_ (below_drew HB.out)
     go_wp2
     go_roundw
     case rel => exact ⟨i + 1, by omega, by go_num, HT, HB1⟩
     case measure => simp [intOf]; omega
    ·have HT := aq_ (take_notG H1.out H2.out hxy)
     have n1 := fun w => neq_don w x y
     rw [decide_eq_false hxy] at n1
     clear hl2 hl3 hxy
     go_wp2
     refine start_ (n := 9) (S := fun w' => w'.cell? (ax.add (i * 7)) = some (.int .i64 x.user) ∧ w'.cell? ⟨(ax.add (i * 7)).block, (ax.add (i * 7)).off + 1, none⟩ = some (.int .i64 x.epoch) ∧ w'.cell? ⟨(ax.add (i * 7)).block, (ax.add (i * 7)).off + 2, none⟩ = some (.int .u64 x.draw) ∧ w'.cell? ⟨(ax.add (i * 7)).block, (ax.add (i * 7)).off + 3, none⟩ = some (.int .u64 x.cn) ∧ w'.cell? ⟨(ax.add (i * 7)).block, (ax.add (i * 7)).off + 4, none⟩ = some (.int .u64 x.count) ∧ w'.cell? ⟨(ax.add (i * 7)).block, (ax.add (i * 7)).off + 5, none⟩ = some (.int .i64 x.cmd) ∧ w'.cell? ⟨(ax.add (i * 7)).block, (ax.add (i * 7)).off + 6, none⟩ = some (.int .i64 x.arg) ∧ w'.cell? (ay.add (i * 7)) = some (.int .i64 y.user) ∧ w'.cell? ⟨(ay.add (i * 7)).block, (ay.add (i * 7)).off + 1, none⟩ = some (.int .i64 y.epoch) ∧ w'.cell? ⟨(ay.add (i * 7)).block, (ay.add (i * 7)).off + 2, none⟩ = some (.int .u64 y.draw) ∧ w'.cell? ⟨(ay.add (i * 7)).block, (ay.add (i * 7)).off + 3, none⟩ = some (.int .u64 y.cn) ∧ w'.cell? ⟨(ay.add (i * 7)).block, (ay.add (i * 7)).off + 4, none⟩ = some (.int .u64 y.count) ∧ w'.cell? ⟨(ay.add (i * 7)).block, (ay.add (i * 7)).off + 5, none⟩ = some (.int .i64 y.cmd) ∧ w'.cell? ⟨(ay.add (i * 7)).block, (ay.add (i * 7)).off + 6, none⟩ = some (.int .i64 y.arg)) (ds := []) #[false, false, false, false, false, false, false, false, false] (by kernel_rfl) rfl rfl ⟨x0, x1, x2, x3, x4, x5, x6, y0, y1, y2, y3, y4, y5, y6⟩ (fun hHeld => ?_)
     refine pu_ 0 (some 16) ?_ (bt_ 9 1) rfl rfl (Or.inl ⟨by rfl, ?_⟩) ?_ ?_ ?_;rotate_left;(intro w';go_simp;with_reducible rfl);rotate_left;(simp only [pt_];rfl)
     refine pu_ 1 (some 17) ?_ (bt_ 9 3) rfl rfl (Or.inl ⟨by rfl, ?_⟩) ?_ ?_ ?_;rotate_left;(intro w';go_simp;with_reducible rfl);rotate_left;(simp only [pt_];rfl)
     refine pu_ 2 (some 18) ?_ (bt_ 9 7) rfl rfl (Or.inl ⟨by rfl, ?_⟩) ?_ ?_ ?_;rotate_left;(intro w';go_simp;with_reducible rfl);rotate_left;(simp only [pt_];rfl)
     refine pu_ 4 (some 20) ?_ (bt_ 9 23) rfl rfl (Or.inl ⟨by rfl, ?_⟩) ?_ ?_ ?_;rotate_left;(intro w';go_simp;with_reducible rfl);rotate_left;(simp only [pt_];rfl)
     refine pu_ 5 (some 21) ?_ (bt_ 9 55) rfl rfl (Or.inl ⟨by rfl, ?_⟩) ?_ ?_ ?_;rotate_left;(intro w';go_simp;with_reducible rfl);rotate_left;(simp only [pt_];rfl)
     refine pu_ 6 (some 22) ?_ (bt_ 9 119) rfl rfl (Or.inl ⟨by rfl, ?_⟩) ?_ ?_ ?_;rotate_left;(intro w';go_simp;with_reducible rfl);rotate_left;(simp only [pt_];rfl)
     refine ta_ 3 (some 19) ?_ (bt_ 9 127) rfl rfl (Or.inl ⟨by rfl, ?_⟩) hHeld ?_ ?_ ?_;rotate_left;(rintro w' ⟨s0, s1, s2, s3, s4, s5, s6, s7, s8, s9, s10, s11, s12, s13⟩;go_simp;with_reducible rfl);rotate_left;(simp only [pt_];rfl)
     refine ta_ 7 (some 23) ?_ (bt_ 9 255) rfl rfl (Or.inl ⟨by rfl, ?_⟩) hHeld ?_ ?_ ?_;rotate_left;(rintro w' ⟨s0, s1, s2, s3, s4, s5, s6, s7, s8, s9, s10, s11, s12, s13⟩;go_simp;with_reducible rfl);rotate_left;(simp only [pt_];rfl)
     refine pu_ 8 (some 24) ?_ (bt_ 9 511) rfl rfl (Or.inl ⟨by rfl, ?_⟩) ?_ ?_ ?_;rotate_left;(intro w';go_simp;with_reducible rfl);rotate_left;(simp only [pt_];rfl)
     refine done_ (by kernel_rfl) ?_
     have HB1 := aq_ (below_drew HB.out)
     go_wp2
     go_ret
     exact ⟨by rw [decide_eq_false HT.out]; rfl, HB1.out⟩
   ·obtain rfl : i = l.length := by omega
    have he : l = k := by
     have h := HS.out
     rw [List.take_length, HLEN.out, List.take_length] at h
     exact h
    have HE := aq_ he
    clear he
    go_wp2
    go_ret
    exact ⟨by rw [decide_eq_true HE.out]; rfl, HB.out⟩
 ·have hl3 : ((l.length : Int) == (k.length : Int)) = false := by simpa using (show ¬ ((l.length : Int) = (k.length : Int)) by omega)
  have hl2 : (decide ((l.length : Int) = (k.length : Int))) = false := decide_eq_false (by omega)
  have HN := aq_ (show l ≠ k from fun h => hlen (by rw [h]))
  clear hlen
  go_enter Tryz.func49, Tryz.ntmps49
  go_wp2
  go_ret
  exact ⟨by rw [decide_eq_false HN.out]; rfl, HB.out⟩
theorem Usr.eq_iff (a b : Usr) : a = b ↔ (a.no = b.no ∧ a.role = b.role ∧ a.key = b.key) := by
  constructor
  · rintro rfl
    exact ⟨rfl, rfl, rfl⟩
  · obtain ⟨a0, a1, a2⟩ := a
    obtain ⟨b0, b1, b2⟩ := b
    rintro ⟨h0, h1, h2⟩
    dsimp only at h0 h1 h2
    subst h0 h1 h2
    rfl
instance : DecidableEq Usr := fun a b => decidable_of_iff _ (Usr.eq_iff a b).symm
theorem usr_eq (x y : Usr) : decide (x = y) = ((x.no == y.no) && ((x.role == y.role) && decide (x.key = y.key))) := by
  rw [Bool.eq_iff_iff, decide_eq_true_eq, Usr.eq_iff]
  simp only [Bool.and_eq_true, beq_iff_eq, decide_eq_true_eq]
set_option maxHeartbeats 2000000 in
theorem usame1_any (x y : Usr) (A B : Option Addr) (c d : Nat) (w : World) (hx : (Kd.int .u8).C w A x.key.length x.key) (hy : (Kd.int .u8).C w B y.key.length y.key) :
    Calls Tryz.prog 76 #[.agg #[.int .i64 x.no, .int .i64 x.role, .slice A x.key.length c], .agg #[.int .i64 y.no, .int .i64 y.role, .slice B y.key.length d]] w fun e w' => e = .returned (.bool (decide (x = y))) ∧ Below w.heap.size w w' := by
  have HX := aq_ hx
  have HY := aq_ hy
  have HB := aq_ (Below.refl w.heap.size w)
  rw [usr_eq]
  clear hx hy
  cases t0 : (x.no == y.no)
  · go_enter Tryz.func76, Tryz.ntmps76
    go_wp2
    go_ret
    exact ⟨rfl, below_alloc (below_alloc HB.out _) _⟩
  cases t1 : (x.role == y.role)
  · go_enter Tryz.func76, Tryz.ntmps76
    go_wp2
    go_ret
    exact ⟨rfl, below_alloc (below_alloc HB.out _) _⟩
  go_enter Tryz.func76, Tryz.ntmps76
  go_wp2_with (go_at_call 77; (with_reducible refine (beq_any x.key y.key A B c d _ (Kd.C_alloc (Kd.C_alloc HX.out _) _) (Kd.C_alloc (Kd.C_alloc HY.out _) _)).mono ?_); rintro e w2 ⟨rfl, hb⟩; have HB2 := aq_ (below_step (below_alloc (below_alloc HB.out _) _) hb); clear hb)
  go_ret
  exact ⟨rfl, HB2.out⟩
set_option maxHeartbeats 2000000 in
theorem ueq_any (l k : List Usr) (A B : Option Addr) (c d : Nat) (W : World) (hr : kU.C W A l.length l) (hs : kU.C W B k.length k) :
    Calls Tryz.prog 75 #[.slice A l.length c, .slice B k.length d, .func (.func 76) #[] #[]] W fun e w' => e = .returned (.bool (decide (l = k))) ∧ Below W.heap.size W w' := by
  have hml : l.length ≤ 9223372036854775807 := hr.2.1
  have HC := aq_ hr
  have HD := aq_ hs
  have HB := aq_ (Below.refl W.heap.size W)
  clear hr hs
  by_cases hlen : l.length = k.length
  · have HLEN := aq_ hlen
    have hl2 : (decide ((l.length : Int) = (k.length : Int))) = true := by simp [hlen]
    have hl3 : ((l.length : Int) == (k.length : Int)) = true := by simp [hlen]
    have hl4 : ((l.length : Int) != (k.length : Int)) = false := by simp [hlen]
    clear hlen
    go_enter Tryz.func75, Tryz.ntmps75
    go_wp2
    go_loopw [17] (fun v wr => ∃ i : Nat, i ≤ l.length ∧ v = .int .i64 i ∧ Aside0 (l.take i = k.take i) ∧ Aside0 (Below W.heap.size W wr)) (fun v _ => l.length - (intOf v).toNat)
    case atStart => exact ⟨0, by omega, rfl, ⟨rfl⟩, HB⟩
    case round =>
      clear HB
      obtain ⟨i, hi, rfl, HS, HB⟩ := hrel
      by_cases hlt : i < l.length
      · have hlt2 : i < k.length := by rw [← HLEN.out]; exact hlt
        obtain ⟨ax, A1, c1, rfl, x0, x1, x2, _, hx⟩ := at_U (Kd.C_below HC.out HB.out) i hlt
        obtain ⟨ay, A2, c2, rfl, y0, y1, y2, _, hy⟩ := at_U (Kd.C_below HD.out HB.out) i hlt2
        have H1 := aq_ (show l[i]? = some (rdU l i) by rw [rdU_get l hlt]; exact List.getElem?_eq_getElem hlt)
        have H2 := aq_ (show k[i]? = some (rdU k i) by rw [rdU_get k hlt2]; exact List.getElem?_eq_getElem hlt2)
        obtain ⟨x, hxe⟩ : ∃ x, x = rdU l i := ⟨_, rfl⟩
        obtain ⟨y, hye⟩ : ∃ y, y = rdU k i := ⟨_, rfl⟩
        rw [← hxe] at x0 x1 x2 hx H1
        rw [← hye] at y0 y1 y2 hy H2
        have HX := aq_ hx
        have HY := aq_ hy
        clear hxe hye hx hy
        have y0' := fun o => alloc_far y0 o
        have y1' := fun o => alloc_far y1 o
        have y2' := fun o => alloc_far y2 o
        by_cases hxy : x = y
        · have HE := aq_ (show decide (x = y) = true from decide_eq_true hxy)
          have HT := aq_ (take_moreG HS.out H1.out (by rw [hxy]; exact H2.out))
          clear hxy
          go_wp2_with (go_at_call 76; (with_reducible refine (usame1_any x y A1 A2 c1 c2 _ (Kd.C_alloc (Kd.C_alloc HX.out _) _) (Kd.C_alloc (Kd.C_alloc HY.out _) _)).mono ?_); rw [HE.out]; rintro e w2 ⟨rfl, hb⟩; have HB2 := aq_ (below_step (below_alloc (below_alloc HB.out _) _) hb); clear hb)
          go_roundw
          case rel =>
            first
            | exact ⟨i + 1, by omega, by go_num, HT, HB2⟩
            | (repeat apply Exists.intro
               exact ⟨⟨i + 1, by omega, (rfl : Value.int .i64 ((i : Int) + 1) = .int .i64 ((i + 1 : Nat) : Int)), HT, HB2⟩, rfl⟩)
          case measure => simp [intOf]; omega
        · have HE := aq_ (show decide (x = y) = false from decide_eq_false hxy)
          have HT := aq_ (take_notG H1.out H2.out hxy)
          clear hxy
          go_wp2_with (go_at_call 76; (with_reducible refine (usame1_any x y A1 A2 c1 c2 _ (Kd.C_alloc (Kd.C_alloc HX.out _) _) (Kd.C_alloc (Kd.C_alloc HY.out _) _)).mono ?_); rw [HE.out]; rintro e w2 ⟨rfl, hb⟩; have HB2 := aq_ (below_step (below_alloc (below_alloc HB.out _) _) hb); clear hb)
          go_ret
          exact ⟨by rw [decide_eq_false HT.out]; rfl, HB2.out⟩
      · obtain rfl : i = l.length := by omega
        have he : l = k := by
          have h := HS.out
          rw [List.take_length, HLEN.out, List.take_length] at h
          exact h
        have HE := aq_ he
        clear he
        go_wp2
        go_ret
        exact ⟨by rw [decide_eq_true HE.out]; rfl, HB.out⟩
  · have hl3 : ((l.length : Int) == (k.length : Int)) = false := by simpa using (show ¬ ((l.length : Int) = (k.length : Int)) by omega)
    have hl2 : (decide ((l.length : Int) = (k.length : Int))) = false := decide_eq_false (by omega)
    have HN := aq_ (show l ≠ k from fun h => hlen (by rw [h]))
    clear hlen
    go_enter Tryz.func75, Tryz.ntmps75
    go_wp2
    go_ret
    exact ⟨by rw [decide_eq_false HN.out]; rfl, HB.out⟩
theorem usame_any (l k : List Usr) (A B : Option Addr) (c d : Nat) (W : World) (hr : kU.C W A l.length l) (hs : kU.C W B k.length k) :
    Calls Tryz.prog 46 #[.slice A l.length c, .slice B k.length d] W fun e w' => e = .returned (.bool (decide (l = k))) ∧ Below W.heap.size W w' := by
  have HC := aq_ hr
  have HD := aq_ hs
  clear hr hs
  go_enter Tryz.func46, Tryz.ntmps46
  go_wp2_with (go_at_call 75; (with_reducible refine (ueq_any l k A B c d _ HC.out HD.out).mono ?_); rintro e w1 ⟨rfl, hb⟩; have HB := aq_ hb; clear hb)
  go_ret
  exact ⟨rfl, HB.out⟩
end Go.Proofs.YtdinphnljokigaaGreat.P
end
