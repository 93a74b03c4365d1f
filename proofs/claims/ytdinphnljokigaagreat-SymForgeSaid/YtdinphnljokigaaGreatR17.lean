/- What LawSymForge rests on, part 17: several texts put together. -/
import Derived.Test.YtdinphnljokigaaGreatR15
import Derived.Test.YtdinphnljokigaaGreatR16
import Derived.Test.YtdinphnljokigaaGreatR13
import Derived.Test.YtdinphnljokigaaGreatR2
set_option linter.unusedVariables false
set_option linter.unnecessarySimpa false
set_option linter.unusedSimpArgs false
set_option maxRecDepth 100000
section
namespace Go.Proofs.YtdinphnljokigaaGreat.P
open Go.RowKit Go.Lib Go.Proofs.YtdinphnljokigaaGreatW.PrintWords Go.Proofs.YtdinphnljokigaaGreatW.PrintLast Go.Proofs.YtdinphnljokigaaGreatW.PrintMore
def wfF (f : Frm) : Prop := (0 ≤ f.sess ∧ f.sess < 18446744073709551616) ∧ (0 ≤ f.cn ∧ f.cn < 18446744073709551616) ∧ (0 ≤ f.count ∧ f.count < 18446744073709551616)
def numS (f : Frm) (s : Bool × Nat × Int) : S41 := ⟨numF f s.2.1, s.2.2⟩
def sumK (l : List (Bool × Nat × Int)) : Int := (l.map fun s => s.2.2).sum
def sizeF (f : Frm) : Int := if tagK f.kind = true then 1 + sumK (slotsK f.kind) + 32 else 1 + sumK (slotsK f.kind)
def numsF (f : Frm) : List S41 := ⟨sizeF f, 2⟩ :: ⟨f.kind, 1⟩ :: (slotsK f.kind).map (numS f)
def textB (f : Frm) : List Int := catL (numsF f)
theorem plain_parts {f : Frm} (h : plainF f = true) : (0 ≤ f.kind ∧ f.kind ≤ 6) ∧ (0 ≤ f.user ∧ f.user ≤ 255) ∧ (0 ≤ f.epoch ∧ f.epoch ≤ 1073741824) ∧ (0 ≤ f.cmd ∧ f.cmd ≤ 255) ∧ (0 ≤ f.arg ∧ f.arg ≤ 65535) ∧ bareF f = f := by
 simp only [plainF, kindB, inB, Bool.and_eq_true, decide_eq_true_eq] at h
 obtain ⟨⟨k1, k2⟩, u, e, c, a, b⟩ := h
 exact ⟨⟨k1, by omega⟩, u, e, c, a, b⟩
theorem slots_fit {f : Frm} (h : plainF f = true) (hw : wfF f) : ∀ s ∈ slotsK f.kind, fits (numF f s.2.1) s.2.2 ∧ (0 ≤ numF f s.2.1 ∧ numF f s.2.1 < 18446744073709551616) ∧ 1 ≤ s.2.2 ∧ s.2.2 ≤ 8 := by
 obtain ⟨⟨k0, k6⟩, u, e, c, a, b⟩ := plain_parts h
 obtain ⟨w1, w2, w3⟩ := hw
 have hk : f.kind = 0 ∨ f.kind = 1 ∨ f.kind = 2 ∨ f.kind = 3 ∨ f.kind = 4 ∨ f.kind = 5 ∨ f.kind = 6 := by omega
 have p1 : (256 : Int) ^ (1 : Int).toNat = 256 := by decide
 have p2 : (256 : Int) ^ (2 : Int).toNat = 65536 := by decide
 have p4 : (256 : Int) ^ (4 : Int).toNat = 4294967296 := by decide
 have p8 : (256 : Int) ^ (8 : Int).toNat = 18446744073709551616 := by decide
 rcases hk with hk | hk | hk | hk | hk | hk | hk <;> rw [hk] <;> simp [slotsK, numF, fits, p1, p2, p4, p8] <;> omega
theorem sumK_le (l : List (Bool × Nat × Int)) (h : ∀ s ∈ l, 1 ≤ s.2.2 ∧ s.2.2 ≤ 8) : 0 ≤ sumK l ∧ sumK l ≤ 8 * l.length := by
 induction l with
 | nil => simp [sumK]
 | cons s l ih =>
  have h1 := ih fun x hx => h x (by simp [hx])
  have h2 := h s (by simp)
  simp only [sumK, List.map_cons, List.sum_cons, List.length_cons] at h1 ⊢
  omega
theorem sumK_snoc (l : List (Bool × Nat × Int)) (s : Bool × Nat × Int) : sumK (l ++ [s]) = sumK l + s.2.2 := by simp [sumK]
theorem nums_ok {f : Frm} (h : plainF f = true) (hw : wfF f) : (∀ x ∈ numsF f, okN x) ∧ (numsF f).length ≤ 40 ∧ ∀ x ∈ numsF f, fits x.f0 x.f1 := by
 obtain ⟨⟨k0, k6⟩, _⟩ := plain_parts h
 have hs := slots_fit h hw
 have hl := slotsK_len f.kind
 have hsum := sumK_le (slotsK f.kind) fun s hs' => (hs s hs').2.2
 have hz : 0 ≤ sizeF f ∧ sizeF f ≤ 65 := by unfold sizeF; split <;> omega
 have p1 : (256 : Int) ^ (1 : Int).toNat = 256 := by decide
 have p2 : (256 : Int) ^ (2 : Int).toNat = 65536 := by decide
 refine ⟨fun x hx => ?_, by simp [numsF]; omega, fun x hx => ?_⟩
 ·simp only [numsF, List.mem_cons, List.mem_map] at hx
  rcases hx with rfl | rfl | ⟨s, hs', rfl⟩
  ·exact ⟨by dsimp only; omega, by dsimp only; omega, by dsimp only; omega⟩
  ·exact ⟨by dsimp only; omega, by dsimp only; omega, by dsimp only; omega⟩
  ·have := hs s hs'
   exact ⟨this.2.1, by dsimp only [numS]; omega, by dsimp only [numS]; omega⟩
 ·simp only [numsF, List.mem_cons, List.mem_map] at hx
  rcases hx with rfl | rfl | ⟨s, hs', rfl⟩
  ·exact ⟨by dsimp only; omega, by dsimp only; omega, by dsimp only; rw [p2]; omega⟩
  ·exact ⟨by dsimp only; omega, by dsimp only; omega, by dsimp only; rw [p1]; omega⟩
  ·exact (hs s hs').1
theorem wu64 {x : Int} (h0 : 0 ≤ x) (h1 : x < 18446744073709551616) : IntKind.u64.wrap x = x := by
 rw [IntKind.wrap_u64]
 omega
theorem R_lit2 (W : World) (x y : S41) : Kd.R k41 140 (W.alloc (.cells #[.int .u64 x.f0, .int .i64 x.f1, .int .u64 y.f0, .int .i64 y.f1] 140)) W.heap.size (fun _ => True) (.slice (some ⟨W.heap.size, 0, none⟩) 2 2) [x, y] := by
 refine ⟨fun k hk => trivial, [.int .u64 x.f0, .int .i64 x.f1, .int .u64 y.f0, .int .i64 y.f1], ⟨rfl, .inr ⟨W.heap.size, 2, _, rfl, Nat.le_refl _, blk_new W _, Nat.le_refl _, by decide, rfl, rfl⟩⟩, ⟨rfl, fun j p h => ?_⟩⟩
 have hj : j < 2 := (List.getElem?_eq_some_iff.1 h).1
 have hj2 : j = 0 ∨ j = 1 := by omega
 rcases hj2 with rfl | rfl
 ·obtain rfl : x = p := by simpa using h
  exact k41_mkM _ _ _ x
 ·obtain rfl : y = p := by simpa using h
  exact k41_mkM _ _ _ y
theorem wr_c {i n : Nat} (h : i < n) (hn : n ≤ 4) : Value.int .i64 (wrap64 ((i : Int) + 1)) = .int .i64 ((i + 1 : Nat) : Int) := by
 rw [wr_i h hn]
 rfl
theorem wr_s {f : Frm} {L : List (Bool × Nat × Int)} {i : Nat} {b : Bool} {off : Nat} {k : Int} (hf : ∀ s ∈ L, fits (numF f s.2.1) s.2.2 ∧ (0 ≤ numF f s.2.1 ∧ numF f s.2.1 < 18446744073709551616) ∧ 1 ≤ s.2.2 ∧ s.2.2 ≤ 8) (hl : L.length ≤ 4) (hs : L[i]? = some (b, off, k)) : Value.int .i64 (wrap64 (1 + sumK (L.take i) + k)) = .int .i64 (1 + sumK (L.take (i + 1))) := by
 rw [List.take_add_one, hs, Option.toList_some, sumK_snoc]
 have h1 := sumK_le (L.take i) fun s h => (hf s (List.mem_of_mem_take h)).2.2
 have h2 := hf _ (List.mem_of_getElem? hs)
 have h3 : (L.take i).length ≤ 4 := by rw [List.length_take]; omega
 rw [w64 (by dsimp only at h2; omega) (by dsimp only at h2; omega), Int.add_assoc]
theorem nums_snoc {f : Frm} {L : List (Bool × Nat × Int)} {i : Nat} {s : Bool × Nat × Int} {w : World} {base : Nat} {v : Value} (hs : L[i]? = some s) (h : Kd.R k41 140 w base (fun _ => True) v ((⟨0, 0⟩ :: ⟨f.kind, 1⟩ :: (L.take i).map (numS f)) ++ [numS f s])) : Kd.R k41 140 w base (fun _ => True) v (⟨0, 0⟩ :: ⟨f.kind, 1⟩ :: (L.take (i + 1)).map (numS f)) := by
 rw [List.take_add_one, hs, Option.toList_some, List.map_append]
 exact h
set_option maxHeartbeats 2000000 in
theorem text_any (f : Frm) (w : World) (hp : plainF f = true) (hw : wfF f) :
  Calls Tryz.prog 90 #[.agg (fca f)] w fun e w' => ∃ v, e = .returned (.tuple #[v, .bool (tagK f.kind)]) ∧ Kd.R (Kd.int .u8) 5 w' w.heap.size (fun _ => True) v (textB f) ∧ Below w.heap.size w w' := by
 have HB := aq_ (Below.refl w.heap.size w)
 have HP := aq_ hp
 have HW := aq_ hw
 obtain ⟨⟨h0, h6⟩, _⟩ := plain_parts hp
 clear hp hw
 go_enter Tryz.func90, Tryz.ntmps90
 go_upto_region 1 with (with_reducible refine box_Fr (.tmp 0) (f := f) rfl rfl rfl ?_; intro g1 hg w1 hbox hb; have HB1 := aq_ (below_step HB.out hb); have X1 := aq_ hbox; clear hg hbox hb HB)
 go_upto_region 2 with (go_at_call 109; (with_reducible refine (slots_F g1 f.kind _ h0 h6 (blk_lt X1.out) (cellsF X1.out).1).mono ?_); rintro e w2 ⟨A1, c1, rfl, hc1, hC1, hb⟩; have HB2 := aq_ (below_step HB1.out hb); have X2 := aq_ (blk_below X1.out hb); have C1 := aq_ (Kd.F_now hC1); have K1 := aq_ hc1; clear hc1 hC1 hb X1 HB1)
 have hk0 := (cellsF X2.out).1
 have hwk : IntKind.u64.wrap f.kind = f.kind := wu64 h0 (by omega)
 go_upto_region 4 with (fail)
 clear hwk hk0
 obtain ⟨L, hL⟩ : ∃ L, L = slotsK f.kind := ⟨_, rfl⟩
 rw [← hL] at C1 K1 ⊢
 have HL := aq_ hL
 have FIT := aq_ (show ∀ s ∈ L, fits (numF f s.2.1) s.2.2 ∧ (0 ≤ numF f s.2.1 ∧ numF f s.2.1 < 18446744073709551616) ∧ 1 ≤ s.2.2 ∧ s.2.2 ≤ 8 by rw [hL]; exact slots_fit HP.out HW.out)
 have OK := aq_ (show ∀ s ∈ L, okS s by rw [hL]; exact okS_all _)
 have LN := aq_ (show L.length ≤ 4 by rw [hL]; exact slotsK_len _)
 clear hL
 obtain ⟨W0, hW0⟩ : ∃ W0, W0 = w2.alloc (.cells #[.int .u64 0, .int .i64 0, .int .u64 f.kind, .int .i64 1] 140) := ⟨_, rfl⟩
 rw [← hW0]
 have R0 := aq_ (show Kd.R k41 140 W0 w2.heap.size (fun _ => True) (.slice (some ⟨w2.heap.size, 0, none⟩) 2 2) [⟨0, 0⟩, ⟨f.kind, 1⟩] by rw [hW0]; exact R_lit2 w2 _ _)
 have B0 := aq_ (show Below w2.heap.size w2 W0 by rw [hW0]; exact below_alloc (Below.refl _ _) _)
 clear hW0
 obtain ⟨v0, hv0⟩ : ∃ v0, v0 = Value.slice (some ⟨w2.heap.size, 0, none⟩) 2 2 := ⟨_, rfl⟩
 rw [← hv0] at R0 ⊢
 clear hv0
 go_wp2
 go_loopw [6, 7, 25] (fun v6 v7 v25 wr => ∃ i : Nat, i ≤ L.length ∧ v25 = .int .i64 i ∧ v6 = .int .i64 (1 + sumK (L.take i)) ∧ Aside0 (Below w2.heap.size w2 wr) ∧ Aside0 (Kd.R k41 140 wr w2.heap.size (fun _ => True) v7 (⟨0, 0⟩ :: ⟨f.kind, 1⟩ :: (L.take i).map (numS f)))) (fun v6 v7 v25 _ => L.length - (intOf v25).toNat)
 case atStart => exact ⟨0, by omega, rfl, rfl, B0, R0⟩
 case round =>
  clear B0 R0
  obtain ⟨i, hi, rfl, rfl, HB, HR⟩ := hrel
  by_cases hlt : i < L.length
  ·obtain ⟨⟨b, off, k⟩, hs⟩ : ∃ s, L[i]? = some s := ⟨_, List.getElem?_eq_getElem hlt⟩
   have ho := OK.out _ (List.mem_of_getElem? hs)
   obtain ⟨ad, rfl, a0, a1, a2⟩ := at_L (Kd.C_below C1.out HB.out) i hlt (slotAt g1 (b, off, k)) (by rw [List.getElem?_map, hs]; rfl)
   have x2 := num_cell (blk_below X2.out HB.out) ho
   have hf := FIT.out _ (List.mem_of_getElem? hs)
   have HS := aq_ hs
   have HF := aq_ hf
   clear hs ho hf
   cases b
   ·
    replace a0 : wr.cell? (ad.add (i * 3)) = some (.pointer (none)) := a0
    replace a1 : wr.cell? ⟨(ad.add (i * 3)).block, (ad.add (i * 3)).off + 1, none⟩ = some (.pointer (some ⟨g1, off, none⟩)) := a1
    replace a2 : wr.cell? ⟨(ad.add (i * 3)).block, (ad.add (i * 3)).off + 2, none⟩ = some (.int .i64 k) := a2
    replace x2 : wr.cell? ⟨g1, off, none⟩ = some (.int .u64 (numF f off)) := x2
    have hg1 : g1 < wr.heap.size := blk_lt (blk_below X2.out HB.out)
    go_upto_region 11 with (fail)
    obtain ⟨W, hW⟩ : ∃ W, W = (wr.alloc (.cells #[.pointer (none), .pointer (some ⟨g1, off, none⟩), .int .i64 k] 145)).alloc (.cells #[.int .u64 (numF f off), .int .i64 k] 140) := ⟨_, rfl⟩
    rw [← hW]
    have HX := aq_ (show W.heap[wr.heap.size]? = some (.cells #[.pointer (none), .pointer (some ⟨g1, off, none⟩), .int .i64 k] 145 (0, 0)) by rw [hW]; exact blk_alloc (blk_new wr _) _)
    have HY := aq_ (show W.heap[wr.heap.size + 1]? = some (.cells #[.int .u64 (numF f off), .int .i64 k] 140 (0, 0)) by rw [hW, ← size_al wr]; exact blk_new _ _)
    have HRW := aq_ (show Kd.R k41 140 W w2.heap.size (fun _ => True) u7 (⟨0, 0⟩ :: ⟨f.kind, 1⟩ :: (L.take i).map (numS f)) by rw [hW]; exact Kd.R_alloc (Kd.R_alloc HR.out _) _)
    have HBW := aq_ (show Below w2.heap.size w2 W by rw [hW]; exact below_alloc (below_alloc HB.out _) _)
    clear hW
    have y0 : W.cell? ⟨wr.heap.size + 1, 0, none⟩ = some (.int .u64 (numF f off)) := blk_cell HY.out 0
    have y1 : W.cell? ⟨wr.heap.size + 1, 1, none⟩ = some (.int .i64 k) := blk_cell HY.out 1
    go_upto_region 12 with ((with_reducible refine gate_builtin (b := .append) (xs := #[.tmp 46, .tmp 48]) rfl ?_); at_builtin; refine Kd.R_append k41 (w0 := w2) w2.heap.size rfl (.tmp 46) (.tmp 48) 141 140 (.agg #[.int .u64 0, .int .i64 0]) 16 rfl Tryz.underlying141 infoN rfl (by decide) (by decide) u7 (⟨0, 0⟩ :: ⟨f.kind, 1⟩ :: (L.take i).map (numS f)) (numS f (false, off, k)) [.int .u64 (numF f off), .int .i64 k] (fun _ => True) (fun _ => False) rfl rfl (k41_mkM _ _ _ (numS f (false, off, k))) (fun _ h => h.elim) (fun _ _ => trivial) HRW.out HBW.out HBW.out.size ?_ ?_; (· have := LN.out; simp; omega); intro v1 w3 ho hb hg hat; have HR1 := aq_ ho; have HB1 := aq_ hb; have hx2 : w3.cell? ⟨wr.heap.size, 2, none⟩ = some (.int .i64 k) := cell_grown hg (blk_cell HX.out 2) (Kd.R_ne HRW.out HX.out (by decide)); clear ho hb hg hat)
    go_wp2
    go_roundw
    case rel => exact ⟨i + 1, by omega, wr_c hlt LN.out, wr_s (b := false) (off := off) FIT.out LN.out HS.out, HB1, ⟨nums_snoc HS.out HR1.out⟩⟩
    case measure => rw [wr_i hlt LN.out]; simp [intOf]; omega
   ·
    replace a0 : wr.cell? (ad.add (i * 3)) = some (.pointer (some ⟨g1, off, none⟩)) := a0
    replace a1 : wr.cell? ⟨(ad.add (i * 3)).block, (ad.add (i * 3)).off + 1, none⟩ = some (.pointer (none)) := a1
    replace a2 : wr.cell? ⟨(ad.add (i * 3)).block, (ad.add (i * 3)).off + 2, none⟩ = some (.int .i64 k) := a2
    replace x2 : wr.cell? ⟨g1, off, none⟩ = some (.int .i64 (numF f off)) := x2
    have hg1 : g1 < wr.heap.size := blk_lt (blk_below X2.out HB.out)
    have hwv : IntKind.u64.wrap (numF f off) = numF f off := wu64 HF.out.2.1.1 HF.out.2.1.2
    go_upto_region 11 with (fail)
    obtain ⟨W, hW⟩ : ∃ W, W = (wr.alloc (.cells #[.pointer (some ⟨g1, off, none⟩), .pointer (none), .int .i64 k] 145)).alloc (.cells #[.int .u64 (numF f off), .int .i64 k] 140) := ⟨_, rfl⟩
    rw [← hW]
    have HX := aq_ (show W.heap[wr.heap.size]? = some (.cells #[.pointer (some ⟨g1, off, none⟩), .pointer (none), .int .i64 k] 145 (0, 0)) by rw [hW]; exact blk_alloc (blk_new wr _) _)
    have HY := aq_ (show W.heap[wr.heap.size + 1]? = some (.cells #[.int .u64 (numF f off), .int .i64 k] 140 (0, 0)) by rw [hW, ← size_al wr]; exact blk_new _ _)
    have HRW := aq_ (show Kd.R k41 140 W w2.heap.size (fun _ => True) u7 (⟨0, 0⟩ :: ⟨f.kind, 1⟩ :: (L.take i).map (numS f)) by rw [hW]; exact Kd.R_alloc (Kd.R_alloc HR.out _) _)
    have HBW := aq_ (show Below w2.heap.size w2 W by rw [hW]; exact below_alloc (below_alloc HB.out _) _)
    clear hW
    have y0 : W.cell? ⟨wr.heap.size + 1, 0, none⟩ = some (.int .u64 (numF f off)) := blk_cell HY.out 0
    have y1 : W.cell? ⟨wr.heap.size + 1, 1, none⟩ = some (.int .i64 k) := blk_cell HY.out 1
    go_upto_region 12 with ((with_reducible refine gate_builtin (b := .append) (xs := #[.tmp 46, .tmp 48]) rfl ?_); at_builtin; refine Kd.R_append k41 (w0 := w2) w2.heap.size rfl (.tmp 46) (.tmp 48) 141 140 (.agg #[.int .u64 0, .int .i64 0]) 16 rfl Tryz.underlying141 infoN rfl (by decide) (by decide) u7 (⟨0, 0⟩ :: ⟨f.kind, 1⟩ :: (L.take i).map (numS f)) (numS f (true, off, k)) [.int .u64 (numF f off), .int .i64 k] (fun _ => True) (fun _ => False) rfl rfl (k41_mkM _ _ _ (numS f (true, off, k))) (fun _ h => h.elim) (fun _ _ => trivial) HRW.out HBW.out HBW.out.size ?_ ?_; (· have := LN.out; simp; omega); intro v1 w3 ho hb hg hat; have HR1 := aq_ ho; have HB1 := aq_ hb; have hx2 : w3.cell? ⟨wr.heap.size, 2, none⟩ = some (.int .i64 k) := cell_grown hg (blk_cell HX.out 2) (Kd.R_ne HRW.out HX.out (by decide)); clear ho hb hg hat)
    go_wp2
    go_roundw
    case rel => exact ⟨i + 1, by omega, wr_c hlt LN.out, wr_s (b := true) (off := off) FIT.out LN.out HS.out, HB1, ⟨nums_snoc HS.out HR1.out⟩⟩
    case measure => rw [wr_i hlt LN.out]; simp [intOf]; omega
  ·obtain rfl : i = L.length := by omega
   have hT : (⟨0, 0⟩ :: ⟨f.kind, 1⟩ :: (L.take L.length).map (numS f) : List S41) = ⟨0, 0⟩ :: ⟨f.kind, 1⟩ :: L.map (numS f) := by rw [List.take_length]
   rw [List.take_length]
   have HR0 := HR.out
   rw [hT] at HR0
   clear hT HR
   obtain ⟨NL, hNL⟩ : ∃ NL : List S41, NL = ⟨0, 0⟩ :: ⟨f.kind, 1⟩ :: L.map (numS f) := ⟨_, rfl⟩
   rw [← hNL] at HR0
   have hm : NL.length = L.length + 2 := by rw [hNL]; simp
   obtain ⟨gl, cl, hv, hgl, _, _⟩ := Kd.R_form HR0 (by omega)
   obtain ⟨m, hmm⟩ : ∃ m, m = NL.length := ⟨_, rfl⟩
   rw [← hmm] at hm hv
   subst hv
   have hm0 : 0 < m := by omega
   have hm6 : m ≤ 6 := by have := LN.out; omega
   obtain ⟨c0, hcl, hcM, hcc, _⟩ := Kd.R_elem HR0 z41 0 (by decide) (by omega)
   have hc0 : c0 = [.int .u64 0, .int .i64 0] := by
    have h := k41_openM hcM
    rw [hNL] at h
    exact h
   subst hc0
   have HNL := aq_ hNL
   have HM := aq_ hmm
   have HR := aq_ HR0
   have HC0 := aq_ hcc
   clear HR0 hcM hcc hcl hgl hNL hmm hm
   cases ht : tagK f.kind
   ·have HT := aq_ ht
    clear ht
    have hsz : 1 + sumK L = sizeF f := by unfold sizeF; rw [HT.out, HL.out]; rfl
    have hzb : 0 ≤ sizeF f ∧ sizeF f ≤ 65 := by
     have h1 := sumK_le L fun s hs => (FIT.out s hs).2.2
     have h2 := LN.out
     rw [← hsz]
     omega
    have hw1 : wrap64 (1 + sumK L) = 1 + sumK L := w64 (by have := sumK_le L fun s hs => (FIT.out s hs).2.2; omega) (by have := sumK_le L fun s hs => (FIT.out s hs).2.2; have := LN.out; omega)
    have hw2 : wrap64 (1 + sumK L) = sizeF f := by rw [← hsz]; exact w64 (by omega) (by omega)
    have hw3 : IntKind.u64.wrap (sizeF f) = sizeF f := wu64 hzb.1 (by omega)
    go_upto_region 16 with (fail)
    rw [hsz]
    clear hw1 hw2 hsz
    go_upto_region 17 with (go_loud (refine Kd.R_store k41 (w0 := w2) w2.heap.size rfl rfl 140 (.tmp 62) (.tmp 61) rfl 140 0 0 NL ⟨sizeF f, 2⟩ (.agg #[.int .u64 (sizeF f), .int .i64 2]) [.int .u64 (sizeF f), .int .i64 2] [.int .u64 0, .int .i64 0] (fun _ => True) (fun _ => False) rfl rfl rfl rfl (by kernel_rfl) (by simp [Value.oneCell']) HR.out (by decide) (Int.ofNat_lt.2 hm0) rfl HC0.out (Nat.le_refl 2) (k41_mkM _ _ _ ⟨sizeF f, 2⟩) (fun _ h => h.elim) HB.out ?_); intro w4 ho hb hg; have HR4 := aq_ ho; have HB4 := aq_ (HB2.out.trans (hb.mono HB2.out.size)); clear ho hb hg)
    have hset : NL.set (Int.toNat 0) ⟨sizeF f, 2⟩ = numsF f := by rw [HNL.out, HL.out]; rfl
    have hlen : (numsF f).length = m := by rw [← hset, List.length_set, HM.out]
    have hR4 := HR4.out
    rw [hset] at hR4
    obtain ⟨n1, n2, n3⟩ := nums_ok HP.out HW.out
    obtain ⟨_, hcc4, hC4⟩ := Kd.R_reads' hR4
    have hcat := catN_any (numsF f) (some ⟨gl, 0, none⟩) cl w4 hC4 (by rw [hlen]; exact hcc4) n1 n2 n3
    have HCAT := aq_ hcat
    clear hset hlen hR4 n1 n2 n3 hcc4 hC4 hcat HR4
    go_wp2_with (go_at_call 110; (with_reducible refine HCAT.out.mono ?_); rintro e w5 ⟨v5, rfl, hR, hb⟩; have HR5 := aq_ hR; have HB5 := aq_ (below_step HB4.out hb); have HLE := aq_ HB4.out.size; clear hR hb)
    go_ret2
    exact ⟨v5, by rw [HT.out]; rfl, Kd.R_lower HR5.out HLE.out, HB5.out⟩
   ·have HT := aq_ ht
    clear ht
    have hsz : 1 + sumK L + 32 = sizeF f := by unfold sizeF; rw [HT.out, HL.out]; rfl
    have hzb : 0 ≤ sizeF f ∧ sizeF f ≤ 65 := by
     have h1 := sumK_le L fun s hs => (FIT.out s hs).2.2
     have h2 := LN.out
     rw [← hsz]
     omega
    have hw1 : wrap64 (1 + sumK L) = 1 + sumK L := w64 (by have := sumK_le L fun s hs => (FIT.out s hs).2.2; omega) (by have := sumK_le L fun s hs => (FIT.out s hs).2.2; have := LN.out; omega)
    have hw2 : wrap64 (1 + sumK L + 32) = sizeF f := by rw [← hsz]; exact w64 (by omega) (by omega)
    have hw3 : IntKind.u64.wrap (sizeF f) = sizeF f := wu64 hzb.1 (by omega)
    go_upto_region 16 with (fail)
    skip
    clear hw1 hw2 hsz
    go_upto_region 17 with (go_loud (refine Kd.R_store k41 (w0 := w2) w2.heap.size rfl rfl 140 (.tmp 62) (.tmp 61) rfl 140 0 0 NL ⟨sizeF f, 2⟩ (.agg #[.int .u64 (sizeF f), .int .i64 2]) [.int .u64 (sizeF f), .int .i64 2] [.int .u64 0, .int .i64 0] (fun _ => True) (fun _ => False) rfl rfl rfl rfl (by kernel_rfl) (by simp [Value.oneCell']) HR.out (by decide) (Int.ofNat_lt.2 hm0) rfl HC0.out (Nat.le_refl 2) (k41_mkM _ _ _ ⟨sizeF f, 2⟩) (fun _ h => h.elim) HB.out ?_); intro w4 ho hb hg; have HR4 := aq_ ho; have HB4 := aq_ (HB2.out.trans (hb.mono HB2.out.size)); clear ho hb hg)
    have hset : NL.set (Int.toNat 0) ⟨sizeF f, 2⟩ = numsF f := by rw [HNL.out, HL.out]; rfl
    have hlen : (numsF f).length = m := by rw [← hset, List.length_set, HM.out]
    have hR4 := HR4.out
    rw [hset] at hR4
    obtain ⟨n1, n2, n3⟩ := nums_ok HP.out HW.out
    obtain ⟨_, hcc4, hC4⟩ := Kd.R_reads' hR4
    have hcat := catN_any (numsF f) (some ⟨gl, 0, none⟩) cl w4 hC4 (by rw [hlen]; exact hcc4) n1 n2 n3
    have HCAT := aq_ hcat
    clear hset hlen hR4 n1 n2 n3 hcc4 hC4 hcat HR4
    go_wp2_with (go_at_call 110; (with_reducible refine HCAT.out.mono ?_); rintro e w5 ⟨v5, rfl, hR, hb⟩; have HR5 := aq_ hR; have HB5 := aq_ (below_step HB4.out hb); have HLE := aq_ HB4.out.size; clear hR hb)
    go_ret2
    exact ⟨v5, by rw [HT.out]; rfl, Kd.R_lower HR5.out HLE.out, HB5.out⟩
def putB (f : Frm) : List Int := if plainF f = true then (if tagK f.kind = true then textB f ++ f.tag.1 else textB f) else []
theorem tag_C {w : World} {g : Nat} {t : TypeId} {f : Frm} (h : w.heap[g]? = some (.cells (fca f) t (0, 0))) : (Kd.int .u8).C w (some ⟨g, 8, none⟩) 32 f.tag.1 := by
 refine ⟨f.tag.2, by decide, fun _ => ⟨⟨g, 8, none⟩, rfl, fun j p hp => ⟨[.int .u8 p], rfl, rfl, fun q u hu => ?_⟩⟩⟩
 have hq : q = 0 := by
  have := (List.getElem?_eq_some_iff.1 hu).1
  simp at this
  exact this
 subst hq
 have hu' : u = .int .u8 p := by simpa using hu.symm
 subst hu'
 have hc := tag_cells h j (.int .u8 p) (by simp [kca, hp])
 show w.cell? ((⟨g, 8, none⟩ : Addr).add (j * 1 + 0)) = _
 rw [Nat.mul_one, Nat.add_zero]
 exact hc
theorem text_len {f : Frm} (hp : plainF f = true) (hw : wfF f) : (textB f).length ≤ 1000 := by
 obtain ⟨n1, n2, n3⟩ := nums_ok hp hw
 have h : ∀ l : List S41, (∀ x ∈ l, fits x.f0 x.f1) → (catL l).length ≤ 8 * l.length := by
  intro l
  induction l with
  | nil => intro _; simp [catL]
  | cons x l ih =>
   intro hf
   have h1 := ih fun y hy => hf y (by simp [hy])
   have h2 := hf x (by simp)
   rw [catL_cons, List.length_append, be_length, List.length_cons]
   have := h2.2.1
   omega
 have := h _ n3
 unfold textB
 omega
set_option maxHeartbeats 2000000 in
theorem put_0 (f : Frm) (w : World) (hp : plainF f = false) :
  Calls Tryz.prog 68 #[.agg (fca f)] w fun e w' => ∃ v, e = .returned (.tuple #[v, .bool false]) ∧ Kd.R (Kd.int .u8) 5 w' w.heap.size (fun _ => True) v [] ∧ Below w.heap.size w w' := by
 have HB := aq_ (Below.refl w.heap.size w)
 have HP := aq_ hp
 clear hp
 go_enter Tryz.func68, Tryz.ntmps68
 go_upto_region 1 with (with_reducible refine box_Fr (.tmp 0) (f := f) rfl rfl rfl ?_; intro g1 hg w1 hbox hb; have HB1 := aq_ (below_step HB.out hb); have X1 := aq_ hbox; have L1 := aq_ (Nat.le_of_eq hg.symm); clear hg hbox hb HB)
 go_wp2_with (first
  | (with_reducible refine load_F (.tmp 1) rfl rfl (p := ⟨g1, 0, none⟩) rfl (cells_boxF X1.out) ?_)
  | (go_at_call 89; (with_reducible refine (plain_any f _).mono ?_); rw [HP.out]; rintro e w2 ⟨rfl, hb⟩; have HB2 := aq_ (below_step HB1.out hb); clear hb))
 go_ret2
 exact ⟨_, rfl, Kd.R_nil _ _ _ _ _, HB2.out⟩
set_option maxHeartbeats 2000000 in
theorem put_1 (f : Frm) (w : World) (hp : plainF f = true) (hw : wfF f) (ht : tagK f.kind = false) :
  Calls Tryz.prog 68 #[.agg (fca f)] w fun e w' => ∃ v, e = .returned (.tuple #[v, .bool true]) ∧ Kd.R (Kd.int .u8) 5 w' w.heap.size (fun _ => True) v (textB f) ∧ Below w.heap.size w w' := by
 have HW := aq_ hw
 have HT := aq_ ht
 clear hw ht
 have HB := aq_ (Below.refl w.heap.size w)
 have HP := aq_ hp
 clear hp
 go_enter Tryz.func68, Tryz.ntmps68
 go_upto_region 1 with (with_reducible refine box_Fr (.tmp 0) (f := f) rfl rfl rfl ?_; intro g1 hg w1 hbox hb; have HB1 := aq_ (below_step HB.out hb); have X1 := aq_ hbox; have L1 := aq_ (Nat.le_of_eq hg.symm); clear hg hbox hb HB)
 go_upto_region 4 with (first
  | (with_reducible refine load_F (.tmp 1) rfl rfl (p := ⟨g1, 0, none⟩) rfl (cells_boxF X1.out) ?_)
  | (go_at_call 89; (with_reducible refine (plain_any f _).mono ?_); rw [HP.out]; rintro e w2 ⟨rfl, hb⟩; have HB2 := aq_ (below_step HB1.out hb); have X2 := aq_ (blk_below X1.out hb); clear hb HB1 X1; have HB1 := HB2; have X1 := X2; clear HB2 X2)
  | (go_at_call 90; (with_reducible refine (text_any f _ HP.out HW.out).mono ?_); rw [HT.out]; rintro e w3 ⟨v3, rfl, hR, hb⟩; have HR := aq_ (Kd.R_lower hR HB1.out.size); have HB2 := aq_ (below_step HB1.out hb); have X2 := aq_ (blk_below X1.out hb); clear hR hb HB1 X1; have HB1 := HB2; have X1 := X2; clear HB2 X2))
 go_wp2
 go_ret2
 exact ⟨_, rfl, HR.out, HB1.out⟩
set_option maxHeartbeats 2000000 in
theorem put_2 (f : Frm) (w : World) (hp : plainF f = true) (hw : wfF f) (ht : tagK f.kind = true) :
  Calls Tryz.prog 68 #[.agg (fca f)] w fun e w' => ∃ v, e = .returned (.tuple #[v, .bool true]) ∧ Kd.R (Kd.int .u8) 5 w' w.heap.size (fun _ => True) v (textB f ++ f.tag.1) ∧ Below w.heap.size w w' := by
 have HW := aq_ hw
 have HT := aq_ ht
 clear hw ht
 have HB := aq_ (Below.refl w.heap.size w)
 have HP := aq_ hp
 clear hp
 go_enter Tryz.func68, Tryz.ntmps68
 go_upto_region 1 with (with_reducible refine box_Fr (.tmp 0) (f := f) rfl rfl rfl ?_; intro g1 hg w1 hbox hb; have HB1 := aq_ (below_step HB.out hb); have X1 := aq_ hbox; have L1 := aq_ (Nat.le_of_eq hg.symm); clear hg hbox hb HB)
 go_upto_region 4 with (first
  | (with_reducible refine load_F (.tmp 1) rfl rfl (p := ⟨g1, 0, none⟩) rfl (cells_boxF X1.out) ?_)
  | (go_at_call 89; (with_reducible refine (plain_any f _).mono ?_); rw [HP.out]; rintro e w2 ⟨rfl, hb⟩; have HB2 := aq_ (below_step HB1.out hb); have X2 := aq_ (blk_below X1.out hb); clear hb HB1 X1; have HB1 := HB2; have X1 := X2; clear HB2 X2)
  | (go_at_call 90; (with_reducible refine (text_any f _ HP.out HW.out).mono ?_); rw [HT.out]; rintro e w3 ⟨v3, rfl, hR, hb⟩; have HR := aq_ (Kd.R_lower hR HB1.out.size); have HB2 := aq_ (below_step HB1.out hb); have X2 := aq_ (blk_below X1.out hb); clear hR hb HB1 X1; have HB1 := HB2; have X1 := X2; clear HB2 X2))
 go_wp2_with ((with_reducible refine gate_builtin (b := .append) (xs := #[.tmp 15, .tmp 17]) rfl ?_); at_builtin; go_loud (refine Kd.R_append_rows (Kd.int .u8) (w0 := w) w.heap.size rfl (.tmp 15) (.tmp 17) 64 5 (.int .u8 0) 1 rfl Tryz.underlying64 info5 rfl (by decide) (by decide) v3 (textB f) f.tag.1 _ _ _ (fun _ => True) (fun _ => False) rfl rfl HR.out (tag_C X1.out) (fun _ _ h => h) (fun _ h => h.elim) (fun _ _ => trivial) HB1.out HB1.out.size ?_ ?_); (· have := text_len HP.out HW.out; omega); intro v4 w4 ho hb hg hat; have HR4 := aq_ ho; have HB4 := aq_ hb; clear ho hb hg hat)
 go_ret2
 exact ⟨_, rfl, HR4.out, HB4.out⟩
theorem put_any (f : Frm) (w : World) (hw : wfF f) :
  Calls Tryz.prog 68 #[.agg (fca f)] w fun e w' => ∃ v, e = .returned (.tuple #[v, .bool (plainF f)]) ∧ Kd.R (Kd.int .u8) 5 w' w.heap.size (fun _ => True) v (putB f) ∧ Below w.heap.size w w' := by
 unfold putB
 cases hp : plainF f
 ·exact put_0 f w hp
 ·cases ht : tagK f.kind
  ·exact put_1 f w hp hw ht
  ·exact put_2 f w hp hw ht
theorem build_I0 (w : World) : (Instr.build 29 #[]).run Tryz.prog w = .ok (.agg (kca zkey)) w := by kernel_rfl
theorem eql_I (w : World) (k l : Key) : (binOp .eql 29 (.agg (kca k)) (.agg (kca l))).run Tryz.prog w = .ok (.bool (decide (k = l))) w := by
 show (do pure (Value.bool (← Op.equal 29 (.agg (kca k)) (.agg (kca l)))) : Sem Value).run Tryz.prog w = _
 have h : (Op.equal 29 (.agg (kca k)) (.agg (kca l))).run Tryz.prog w = .ok (decide (k.1 = l.1)) w := eq_key w 9998 k l
 simp only [Sem.run_bind, h, Result.andThen_ok, Sem.run_pure]
 congr 2
 rw [decide_eq_decide]
 exact ⟨Subtype.ext, fun h => by rw [h]⟩
section
variable {ops : Array Oper} {rest : List Oper} {o : Oper} {a : Act} {w : World} {Q : Exit → Act → World → Prop}
theorem build_Ie (ho : o.op = .build 29 #[]) (hgd : o.guard = none) (h : wpList Tryz.prog ops Q rest (a.put o.dst (.agg (kca zkey))) w) : wpList Tryz.prog ops Q (o :: rest) a w := by
 refine Kd.event_run hgd (v := .agg (kca zkey)) ?_ h
 unfold execOp
 simp only [ho, List.map_toArray, List.map_nil, Sem.run_bind, build_I0, Result.andThen_ok, Sem.run_pure]
end
def bareB (f : Frm) : Bool := plainF f && decide (f.tag = zkey)
set_option maxHeartbeats 2000000 in
theorem sbare_0 (f : Frm) (w : World) (hw : wfF f) (hp : plainF f = false) :
  Calls Tryz.prog 35 #[.agg (fca f)] w fun e w' => e = .returned (.bool false) ∧ Below w.heap.size w w' := by
 have HB := aq_ (Below.refl w.heap.size w)
 have HW := aq_ hw
 have HP := aq_ hp
 clear hw hp
 go_enter Tryz.func35, Tryz.ntmps35
 go_upto_region 1 with (with_reducible refine box_Fr (.tmp 0) (f := f) rfl rfl rfl ?_; intro g1 hg w1 hbox hb; have HB1 := aq_ (below_step HB.out hb); have X1 := aq_ hbox; clear hg hbox hb HB)
 go_upto_region 2 with (first
  | (with_reducible refine load_F (.tmp 1) rfl rfl (p := ⟨g1, 0, none⟩) rfl (cells_boxF X1.out) ?_)
  | (go_at_call 68; (with_reducible refine (put_any f _ HW.out).mono ?_); rw [HP.out]; rintro e w2 ⟨v2, rfl, _, hb⟩; have HB2 := aq_ (below_step HB1.out hb); have X2 := aq_ (blk_below X1.out hb); clear hb HB1 X1))
 go_wp2
 go_ret
 exact ⟨rfl, HB2.out⟩
set_option maxHeartbeats 2000000 in
theorem sbare_1 (f : Frm) (w : World) (hw : wfF f) (hp : plainF f = true) :
  Calls Tryz.prog 35 #[.agg (fca f)] w fun e w' => e = .returned (.bool (decide (f.tag = zkey))) ∧ Below w.heap.size w w' := by
 have HB := aq_ (Below.refl w.heap.size w)
 have HW := aq_ hw
 have HP := aq_ hp
 have heq := fun W => eql_I W f.tag zkey
 clear hw hp
 go_enter Tryz.func35, Tryz.ntmps35
 go_upto_region 1 with (with_reducible refine box_Fr (.tmp 0) (f := f) rfl rfl rfl ?_; intro g1 hg w1 hbox hb; have HB1 := aq_ (below_step HB.out hb); have X1 := aq_ hbox; clear hg hbox hb HB)
 go_upto_region 2 with (first
  | (with_reducible refine load_F (.tmp 1) rfl rfl (p := ⟨g1, 0, none⟩) rfl (cells_boxF X1.out) ?_)
  | (go_at_call 68; (with_reducible refine (put_any f _ HW.out).mono ?_); rw [HP.out]; rintro e w2 ⟨v2, rfl, _, hb⟩; have HB2 := aq_ (below_step HB1.out hb); have X2 := aq_ (blk_below X1.out hb); clear hb HB1 X1))
 go_wp2_with (first
  | ((with_reducible refine gate_load 29 (.tmp 12) rfl ?_); (refine gate_guard (by rfl) ?_; dsimp only); refine load_Tg (.tmp 12) rfl rfl rfl X2.out ?_)
  | ((with_reducible refine gate_dst (N := 14) rfl ?_); (refine gate_guard (by rfl) ?_; dsimp only); refine build_Ie rfl rfl ?_))
 go_ret
 exact ⟨rfl, HB2.out⟩
theorem sbare_any (f : Frm) (w : World) (hw : wfF f) :
  Calls Tryz.prog 35 #[.agg (fca f)] w fun e w' => e = .returned (.bool (bareB f)) ∧ Below w.heap.size w w' := by
 unfold bareB
 cases hp : plainF f
 ·exact sbare_0 f w hw hp
 ·rw [Bool.true_and]
  exact sbare_1 f w hw hp
def tagT (k : S24) (l : List Int) : S24 := ⟨3, 0, [k, rowR l]⟩
theorem two_new (w : World) (o1 o2 : Obj) : ((w.alloc o1).alloc o2).heap[w.heap.size]? = some o1 ∧ ((w.alloc o1).alloc o2).heap[w.heap.size + 1]? = some o2 := by
 refine ⟨blk_alloc (blk_new w o1) _, ?_⟩
 rw [← size_al w o1]
 exact blk_new _ _
theorem size_set (w : World) (p : Addr) (v : Value) : (w.setCell p v).heap.size = w.heap.size := World.size_setCell _ _ _
theorem ret_3 {tmps : Array Value} {w : World} {fn : Func} {p : Tmp} (h : fn.results = #[.cell p 36]) {g : Nat} {a b c : Value} (hp : tmps.getD p undef = .pointer (some ⟨g, 0, none⟩)) (hg : w.heap[g]? = some (.cells #[a, b, c] 36 (0, 0))) :
  (results fn tmps).run Tryz.prog w = .ok (.agg #[a, b, c]) w :=
 results_cell_row h tmps w g 36 #[a, b, c] (0, 0) _ hp hg Tryz.underlying36 rfl (by kernel_rfl)
theorem put_3 {w : World} {g : Nat} {t : TypeId} {a b c a' b' c' : Value} (h : w.heap[g]? = some (.cells #[a, b, c] t (0, 0))) : (((w.setCell ⟨g, 0, none⟩ a').setCell ⟨g, 1, none⟩ b').setCell ⟨g, 2, none⟩ c').heap[g]? = some (.cells #[a', b', c'] t (0, 0)) :=
 blk_put (cs := #[a', b', c]) (blk_put (cs := #[a', b, c]) (blk_put h 0 a' rfl) 1 b' rfl) 2 c' rfl
theorem V_put3 {w : World} {g B : Nat} {P : Nat → Prop} {v a' b' c' : Value} {l : List S24} (h : Kd.V k24 36 w B P v l) (hP : ∀ k, P k → k ≠ g) : Kd.V k24 36 (((w.setCell ⟨g, 0, none⟩ a').setCell ⟨g, 1, none⟩ b').setCell ⟨g, 2, none⟩ c') B P v l := by
 refine Kd.V_step h fun k hk _ => ?_
 rw [Below.heap_setCell _ _ _ _ (hP k hk), Below.heap_setCell _ _ _ _ (hP k hk), Below.heap_setCell _ _ _ _ (hP k hk)]
theorem below_put3 {B : Nat} {w0 w : World} (h : Below B w0 w) {g : Nat} (hg : B ≤ g) (a' b' c' : Value) : Below B w0 (((w.setCell ⟨g, 0, none⟩ a').setCell ⟨g, 1, none⟩ b').setCell ⟨g, 2, none⟩ c') := ((h.setCell (p := ⟨g, 0, none⟩) hg a').setCell (p := ⟨g, 1, none⟩) hg b').setCell (p := ⟨g, 2, none⟩) hg c'
set_option maxHeartbeats 2000000 in
theorem tag_any (k : S24) (vk : Value) (l : List Int) (A : Option Addr) (c : Nat) (B : Nat) (P : Nat → Prop) (w : World) (hk : Kd.V k24 36 w B P vk k.f2) (hr : (Kd.int .i64).C w A l.length l) (hc : l.length ≤ c) :
  Calls Tryz.prog 36 #[.agg #[.int .i64 k.f0, .int .i64 k.f1, vk], .slice A l.length c] w fun e w' => ∃ v2, e = .returned (.agg #[.int .i64 3, .int .i64 0, v2]) ∧ Kd.V k24 36 w' w.heap.size (fun j => P j ∨ w.heap.size ≤ j) v2 [k, rowR l] ∧ Below w.heap.size w w' := by
 obtain ⟨Ak, ck, rfl⟩ := Kd.V_slice hk
 have HK := aq_ hk
 have HR := aq_ hr
 have HC := aq_ hc
 have HB := aq_ (Below.refl w.heap.size w)
 clear hk hr hc
 go_enter Tryz.func36, Tryz.ntmps36
 go_upto_region 1 with (fail)
 obtain ⟨W, hW⟩ : ∃ W, W = (w.alloc (.cells #[.int .i64 k.f0, .int .i64 k.f1, .slice Ak k.f2.length ck] 36)).alloc (.cells #[.int .i64 0, .int .i64 0, .slice none 0 0] 36) := ⟨_, rfl⟩
 rw [← hW]
 have X1 := aq_ (show W.heap[w.heap.size]? = some (.cells #[.int .i64 k.f0, .int .i64 k.f1, .slice Ak k.f2.length ck] 36 (0, 0)) by rw [hW]; exact (two_new w _ _).1)
 have X2 := aq_ (show W.heap[w.heap.size + 1]? = some (.cells #[.int .i64 0, .int .i64 0, .slice none 0 0] 36 (0, 0)) by rw [hW]; exact (two_new w _ _).2)
 have HB1 := aq_ (show Below w.heap.size w W by rw [hW]; exact below_alloc (below_alloc HB.out _) _)
 have HS := aq_ (show W.heap.size = w.heap.size + 2 by rw [hW, size_al, size_al])
 clear hW
 go_upto_region 2 with (go_at_call 69; (with_reducible refine (term_Row.calls A c l _ _ _ _ _ (Kd.C_below HR.out HB1.out) HC.out rfl).mono ?_); rintro e w3 ⟨v3, rfl, hR, hb⟩; obtain ⟨A3, c3, rfl⟩ := Kd.V_slice hR; have HR3 := aq_ hR; have Y1 := aq_ (blk_below X1.out hb); have Y2 := aq_ (blk_below X2.out hb); have HB3 := aq_ (below_step HB1.out hb); clear hR hb)
 obtain ⟨⟨p0, p1, p2⟩, _⟩ := cells3 Y1.out
 obtain ⟨⟨r0, r1, r2⟩, f0, f1, f2⟩ := cells3 Y2.out
 have l1 : w.heap.size < w3.heap.size := blk_lt Y1.out
 have l2 : w.heap.size + 1 < w3.heap.size := blk_lt Y2.out
 go_wp2
 refine bodyPost_ret (v := .agg #[.int .i64 3, .int .i64 0, .slice (some ⟨w3.heap.size + 1, 0, none⟩) 2 2]) (ret_3 rfl (g := w.heap.size + 1) rfl (blk_alloc (blk_alloc (put_3 Y2.out) _) _)) rfl ⟨_, rfl, ?_, below_alloc (below_alloc (below_put3 HB3.out (Nat.le_succ _) _ _ _) _) _⟩
 have hK3 : Kd.V k24 36 w3 B (fun j => P j ∧ j < w.heap.size) (.slice Ak k.f2.length ck) k.f2 := Kd.V_below (Kd.V_bound HK.out) HB3.out
 have hR3 := HR3.out
 have hs := HS.out
 have hz := HB3.out.size
 have hsz : ∀ a b c : Value, ((((w3.setCell ⟨w.heap.size + 1, 0, none⟩ a).setCell ⟨w.heap.size + 1, 1, none⟩ b).setCell ⟨w.heap.size + 1, 2, none⟩ c)).heap.size = w3.heap.size := fun a b c => by rw [size_set, size_set, size_set]
 refine V_two (g := w3.heap.size + 1) (a0 := .int .i64 k.f0) (a1 := .int .i64 k.f1) (a2 := .slice Ak k.f2.length ck) (b0 := .int .i64 (rowR l).f0) (b1 := .int .i64 (rowR l).f1) (b2 := .slice A3 (rowR l).f2.length c3) ?_ ?_ ?_ ?_
 ·have h := blk_new (((((w3.setCell ⟨w.heap.size + 1, 0, none⟩ (.int .i64 3)).setCell ⟨w.heap.size + 1, 1, none⟩ (.int .i64 0)).setCell ⟨w.heap.size + 1, 2, none⟩ (.slice (some ⟨w3.heap.size + 1, 0, none⟩) 2 2))).alloc (.cells #[.int .i64 (rowR l).f0, .int .i64 (rowR l).f1, .slice A3 (rowR l).f2.length c3] 36)) (.cells #[.int .i64 k.f0, .int .i64 k.f1, .slice Ak k.f2.length ck, .int .i64 (rowR l).f0, .int .i64 (rowR l).f1, .slice A3 (rowR l).f2.length c3] 36)
  rw [size_al, hsz] at h
  exact h
 ·exact .inr (by omega)
 ·refine FK_of_V (base := B) (Kd.V_alloc (Kd.V_alloc (V_put3 (Kd.V_mono hK3 (ok' := fun j => (P j ∨ w.heap.size ≤ j) ∧ j ≠ w.heap.size + 1) fun j hj => ⟨.inl hj.1, by have := hj.2; omega⟩) (fun j hj => hj.2)) _) _) |> fun h => Kd.FK_mono h fun j hj => hj.1
 ·refine FK_of_V (base := B) (Kd.V_alloc (Kd.V_alloc (V_put3 (Kd.V_mono hR3 (ok' := fun j => (P j ∨ w.heap.size ≤ j) ∧ j ≠ w.heap.size + 1) fun j hj => ⟨.inr (by omega), by omega⟩) (fun j hj => hj.2)) _) _) |> fun h => Kd.FK_mono h fun j hj => hj.1
set_option maxHeartbeats 2000000 in
theorem ufind_0 (l : List Usr) (A : Option Addr) (c : Nat) (no : Int) (w : World) (hr : kU.C w A l.length l) (hm : mayU l = false) :
  Calls Tryz.prog 34 #[.slice A l.length c, .int .i64 no] w fun e w' => e = .returned (.int .i64 (-1)) ∧ Below w.heap.size w w' := by
 have HR := aq_ hr
 have HM := aq_ hm
 clear hr hm
 go_enter Tryz.func34, Tryz.ntmps34
 go_upto_region 1 with (fail)
 obtain ⟨W, hW⟩ : ∃ W, W = (w.alloc (.cells #[.slice A l.length c] 22)).alloc (.cells #[.int .i64 no] 3) := ⟨_, rfl⟩
 rw [← hW]
 have hx := (show W.heap[w.heap.size]? = some (.cells #[.slice A l.length c] 22 (0, 0)) by rw [hW]; exact (two_new w _ _).1)
 have HB1 := aq_ (show Below w.heap.size w W by rw [hW]; exact below_alloc (below_alloc (Below.refl _ _) _) _)
 clear hW
 have p0 : W.cell? ⟨w.heap.size, 0, none⟩ = some (.slice A l.length c) := blk_cell hx 0
 go_wp2_with (go_at_call 42; (with_reducible refine (umay_any l A c _ (Kd.C_below HR.out HB1.out)).mono ?_); rw [HM.out]; rintro e w2 ⟨rfl, hb⟩; have HB2 := aq_ (below_step HB1.out hb); clear hb)
 go_ret
 exact ⟨rfl, HB2.out⟩
set_option maxHeartbeats 2000000 in
theorem ufind_1 (l : List Usr) (A : Option Addr) (c : Nat) (no : Int) (w : World) (hr : kU.C w A l.length l) (hm : mayU l = true) :
  Calls Tryz.prog 34 #[.slice A l.length c, .int .i64 no] w fun e w' => e = .returned (.int .i64 (idxU no l)) ∧ Below w.heap.size w w' := by
 have HR := aq_ hr
 have HM := aq_ hm
 have hm' := hm
 simp only [mayU, Bool.and_eq_true, decide_eq_true_eq] at hm'
 have hl8 : l.length ≤ 8 := by omega
 have HS := aq_ (mayUF_lt l 0 hm'.1)
 clear hr hm hm'
 go_enter Tryz.func34, Tryz.ntmps34
 go_upto_region 1 with (fail)
 obtain ⟨W, hW⟩ : ∃ W, W = (w.alloc (.cells #[.slice A l.length c] 22)).alloc (.cells #[.int .i64 no] 3) := ⟨_, rfl⟩
 rw [← hW]
 have hx := (show W.heap[w.heap.size]? = some (.cells #[.slice A l.length c] 22 (0, 0)) by rw [hW]; exact (two_new w _ _).1)
 have hy := (show W.heap[w.heap.size + 1]? = some (.cells #[.int .i64 no] 3 (0, 0)) by rw [hW]; exact (two_new w _ _).2)
 have HB1 := aq_ (show Below w.heap.size w W by rw [hW]; exact below_alloc (below_alloc (Below.refl _ _) _) _)
 have X1 := aq_ hx
 have Y1 := aq_ hy
 clear hW hy
 have p0 : W.cell? ⟨w.heap.size, 0, none⟩ = some (.slice A l.length c) := blk_cell hx 0
 clear hx
 go_upto_region 4 with (first
  | (go_at_call 42; (with_reducible refine (umay_any l A c _ (Kd.C_below HR.out HB1.out)).mono ?_); rw [HM.out]; rintro e w2 ⟨rfl, hb⟩; have HB2 := aq_ (below_step HB1.out hb); have X2 := aq_ (blk_below X1.out hb); have Y2 := aq_ (blk_below Y1.out hb); have p1 : w2.cell? ⟨w.heap.size, 0, none⟩ = some (.slice A l.length c) := blk_cell X2.out 0; clear hb)
  | (go_at_call 66; (with_reducible refine (search_any l A c no w.heap.size (w.heap.size + 1) _ (Kd.C_below HR.out HB2.out) (by omega) HS.out X2.out Y2.out).mono ?_); rintro e w3 ⟨k, rfl, hk, hk1, hk2, hb⟩; have HB3 := aq_ (below_step HB2.out hb); have X3 := aq_ (blk_below X2.out hb); have Y3 := aq_ (blk_below Y2.out hb); have K1 := aq_ hk1; have K2 := aq_ hk2; clear hb hk1 hk2))
 clear p0 p1
 have q0 : w3.cell? ⟨w.heap.size, 0, none⟩ = some (.slice A l.length c) := blk_cell X3.out 0
 have q1 : w3.cell? ⟨w.heap.size + 1, 0, none⟩ = some (.int .i64 no) := blk_cell Y3.out 0
 by_cases he : k = l.length
 ·have ht : ((k : Int) == (l.length : Int)) = true := by simp [he]
  have HI := aq_ (idxU_none no l fun u hu => by
   obtain ⟨j, hj, rfl⟩ := List.mem_iff_getElem.1 hu
   have := K1.out j (by omega)
   rw [rdU_get l hj] at this
   omega)
  have HE := aq_ he
  clear he
  go_region
  go_wp2
  go_ret
  exact ⟨by rw [HI.out]; rfl, below_drew HB3.out⟩
 ·have ht : ((k : Int) == (l.length : Int)) = false := by simpa using (show ¬ ((k : Int) = (l.length : Int)) by omega)
  have hlt : k < l.length := by omega
  have hge := K2.out k (Nat.le_refl _) hlt
  obtain ⟨ad, A2, c2, rfl, a0, _, _, _⟩ := at_U (Kd.C_below HR.out HB3.out) k hlt
  by_cases hn : (rdU l k).no = no
  ·have hn2 : ((rdU l k).no != no) = false := by simp [hn]
   have HI := aq_ (idxU_at no l k hlt (by rw [← rdU_get l hlt]; exact hn) fun j hj => by
    have := K1.out j hj
    rw [rdU_get l (show j < l.length by omega)] at this
    omega)
   clear hn hge he
   go_region
   go_wp2
   go_ret
   exact ⟨by rw [HI.out]; rfl, below_drew HB3.out⟩
  ·have hn2 : ((rdU l k).no != no) = true := by simpa using hn
   have HI := aq_ (idxU_none no l fun u hu => by
    obtain ⟨j, hj, rfl⟩ := List.mem_iff_getElem.1 hu
    rcases Nat.lt_trichotomy j k with h | h | h
    ·have := K1.out j h
     rw [rdU_get l hj] at this
     omega
    ·subst h
     rw [rdU_get l hj] at hn
     exact hn
    ·have := HS.out k j hj h
     rw [rdU_get l hlt] at hge
     omega)
   clear hn hge he
   go_region
   go_wp2
   go_ret
   exact ⟨by rw [HI.out]; rfl, below_drew HB3.out⟩
theorem ufind_any (l : List Usr) (A : Option Addr) (c : Nat) (no : Int) (w : World) (hr : kU.C w A l.length l) :
  Calls Tryz.prog 34 #[.slice A l.length c, .int .i64 no] w fun e w' => e = .returned (.int .i64 (findU l no)) ∧ Below w.heap.size w w' := by
 unfold findU
 cases hm : mayU l
 ·exact ufind_0 l A c no w hr hm
 ·exact ufind_1 l A c no w hr hm
def roleU (l : List Usr) (no : Int) : Int := if findU l no = -1 then -1 else (rdU l (findU l no)).role
set_option maxHeartbeats 2000000 in
theorem urole_any (l : List Usr) (A : Option Addr) (c : Nat) (no : Int) (w : World) (hr : kU.C w A l.length l) :
  Calls Tryz.prog 17 #[.slice A l.length c, .int .i64 no] w fun e w' => e = .returned (.int .i64 (roleU l no)) ∧ Below w.heap.size w w' := by
 have HR := aq_ hr
 have hge : -1 ≤ findU l no ∧ findU l no < l.length := by
  unfold findU
  split
  ·exact idxU_ge no l
  ·omega
 unfold roleU
 obtain ⟨r, hr0⟩ : ∃ r, findU l no = r := ⟨_, rfl⟩
 have HF := aq_ hr0
 rw [hr0] at hge
 rw [hr0]
 clear hr hr0
 by_cases hn : r = -1
 ·subst hn
  rw [if_pos rfl]
  clear hge
  go_enter Tryz.func17, Tryz.ntmps17
  go_wp2_with (go_at_call 34; (with_reducible refine (ufind_any l A c no _ HR.out).mono ?_); rw [HF.out]; rintro e w2 ⟨rfl, hb⟩; have HB2 := aq_ hb; clear hb)
  go_ret
  exact ⟨rfl, HB2.out⟩
 ·obtain ⟨i, rfl⟩ : ∃ i : Nat, r = i := ⟨r.toNat, by omega⟩
  rw [if_neg hn]
  have hi : i < l.length := by omega
  have ht : ((i : Int) == -1) = false := by simp
  clear hge hn
  go_enter Tryz.func17, Tryz.ntmps17
  go_wp2_with (go_at_call 34; (with_reducible refine (ufind_any l A c no _ HR.out).mono ?_); rw [HF.out]; rintro e w2 ⟨rfl, hb⟩; have HB2 := aq_ hb; obtain ⟨ad, A2, c2, rfl, _, a1, _⟩ := at_U (Kd.C_below HR.out HB2.out) i hi; clear hb)
  go_ret
  exact ⟨rfl, HB2.out⟩
end Go.Proofs.YtdinphnljokigaaGreat.P
end
