/- What LawSymProof rests on, part 17: several texts put together. -/
import Derived.Test.YtdinphnljokigaaQ11
import Derived.Test.YtdinphnljokigaaQ16
import Derived.Test.YtdinphnljokigaaQ2
set_option linter.unusedVariables false
set_option linter.unnecessarySimpa false
set_option linter.unusedSimpArgs false
set_option maxRecDepth 100000
section
namespace Go.Proofs.Ytdinphnljokigaa.P
open Go.RowKit Go.Lib Go.Proofs.YtdinphnljokigaaW.PrintWords Go.Proofs.YtdinphnljokigaaW.PrintLast Go.Proofs.YtdinphnljokigaaW.PrintMore
set_option maxHeartbeats 2000000 in
theorem ufind_0 (l : List Usr) (A : Option Addr) (c : Nat) (no : Int) (w : World) (hr : kU.C w A l.length l) (hm : mayU l = false) :
  Calls Try.prog 28 #[.slice A l.length c, .int .i64 no] w fun e w' => e = .returned (.int .i64 (-1)) ∧ Below w.heap.size w w' := by
 have HR := aq_ hr
 have HM := aq_ hm
 clear hr hm
 go_enter Try.func28, Try.ntmps28
 go_upto_region 1 with (fail)
 obtain ⟨W, hW⟩ : ∃ W, W = (w.alloc (.cells #[.slice A l.length c] 44)).alloc (.cells #[.int .i64 no] 3) := ⟨_, rfl⟩
 rw [← hW]
 have hx := (show W.heap[w.heap.size]? = some (.cells #[.slice A l.length c] 44 (0, 0)) by rw [hW]; exact (two_new w _ _).1)
 have HB1 := aq_ (show Below w.heap.size w W by rw [hW]; exact below_alloc (below_alloc (Below.refl _ _) _) _)
 clear hW
 have p0 : W.cell? ⟨w.heap.size, 0, none⟩ = some (.slice A l.length c) := blk_cell hx 0
 go_wp2_with (go_at_call 30; (with_reducible refine (umay_any l A c _ (Kd.C_below HR.out HB1.out)).mono ?_); rw [HM.out]; rintro e w2 ⟨rfl, hb⟩; have HB2 := aq_ (below_step HB1.out hb); clear hb)
 go_ret
 exact ⟨rfl, HB2.out⟩
set_option maxHeartbeats 2000000 in
theorem ufind_1 (l : List Usr) (A : Option Addr) (c : Nat) (no : Int) (w : World) (hr : kU.C w A l.length l) (hm : mayU l = true) :
  Calls Try.prog 28 #[.slice A l.length c, .int .i64 no] w fun e w' => e = .returned (.int .i64 (idxU no l)) ∧ Below w.heap.size w w' := by
 have HR := aq_ hr
 have HM := aq_ hm
 have hm' := hm
 simp only [mayU, Bool.and_eq_true, decide_eq_true_eq] at hm'
 have hl8 : l.length ≤ 8 := by omega
 have HS := aq_ (mayUF_lt l 0 hm'.1)
 clear hr hm hm'
 go_enter Try.func28, Try.ntmps28
 go_upto_region 1 with (fail)
 obtain ⟨W, hW⟩ : ∃ W, W = (w.alloc (.cells #[.slice A l.length c] 44)).alloc (.cells #[.int .i64 no] 3) := ⟨_, rfl⟩
 rw [← hW]
 have hx := (show W.heap[w.heap.size]? = some (.cells #[.slice A l.length c] 44 (0, 0)) by rw [hW]; exact (two_new w _ _).1)
 have hy := (show W.heap[w.heap.size + 1]? = some (.cells #[.int .i64 no] 3 (0, 0)) by rw [hW]; exact (two_new w _ _).2)
 have HB1 := aq_ (show Below w.heap.size w W by rw [hW]; exact below_alloc (below_alloc (Below.refl _ _) _) _)
 have X1 := aq_ hx
 have Y1 := aq_ hy
 clear hW hy
 have p0 : W.cell? ⟨w.heap.size, 0, none⟩ = some (.slice A l.length c) := blk_cell hx 0
 clear hx
 go_upto_region 4 with (first
  | (go_at_call 30; (with_reducible refine (umay_any l A c _ (Kd.C_below HR.out HB1.out)).mono ?_); rw [HM.out]; rintro e w2 ⟨rfl, hb⟩; have HB2 := aq_ (below_step HB1.out hb); have X2 := aq_ (blk_below X1.out hb); have Y2 := aq_ (blk_below Y1.out hb); have p1 : w2.cell? ⟨w.heap.size, 0, none⟩ = some (.slice A l.length c) := blk_cell X2.out 0; clear hb)
  | (go_at_call 50; (with_reducible refine (search_any l A c no w.heap.size (w.heap.size + 1) _ (Kd.C_below HR.out HB2.out) (by omega) HS.out X2.out Y2.out).mono ?_); rintro e w3 ⟨k, rfl, hk, hk1, hk2, hb⟩; have HB3 := aq_ (below_step HB2.out hb); have X3 := aq_ (blk_below X2.out hb); have Y3 := aq_ (blk_below Y2.out hb); have K1 := aq_ hk1; have K2 := aq_ hk2; clear hb hk1 hk2))
 clear p0 p1
 have q0 : w3.cell? ⟨w.heap.size, 0, none⟩ = some (.slice A l.length c) := blk_cell X3.out 0
 have q1 : w3.cell? ⟨w.heap.size + 1, 0, none⟩ = some (.int .i64 no) := blk_cell Y3.out 0
 by_cases he : k = l.length
 ·have ht : ((k : Int) == (l.length : Int)) = true := by simp [he]
  have HI := aq_ (idxU_none no l fun u hu => by
   obtain ⟨j, hj, rfl⟩ := List.mem_iff_getElem.1 hu
   have := K1.out j (by omega)
   rw [rdU_get l hj] at this
   omega)
  have HE := aq_ he
  clear he
  go_region
  go_wp2
  go_ret
  exact ⟨by rw [HI.out]; rfl, below_drew HB3.out⟩
 ·have ht : ((k : Int) == (l.length : Int)) = false := by simpa using (show ¬ ((k : Int) = (l.length : Int)) by omega)
  have hlt : k < l.length := by omega
  have hge := K2.out k (Nat.le_refl _) hlt
  obtain ⟨ad, A2, c2, rfl, a0, _, _, _⟩ := at_U (Kd.C_below HR.out HB3.out) k hlt
  by_cases hn : (rdU l k).no = no
  ·have hn2 : ((rdU l k).no != no) = false := by simp [hn]
   have HI := aq_ (idxU_at no l k hlt (by rw [← rdU_get l hlt]; exact hn) fun j hj => by
    have := K1.out j hj
    rw [rdU_get l (show j < l.length by omega)] at this
    omega)
   clear hn hge he
   go_region
   go_wp2
   go_ret
   exact ⟨by rw [HI.out]; rfl, below_drew HB3.out⟩
  ·have hn2 : ((rdU l k).no != no) = true := by simpa using hn
   have HI := aq_ (idxU_none no l fun u hu => by
    obtain ⟨j, hj, rfl⟩ := List.mem_iff_getElem.1 hu
    rcases Nat.lt_trichotomy j k with h | h | h
    ·have := K1.out j h
     rw [rdU_get l hj] at this
     omega
    ·subst h
     rw [rdU_get l hj] at hn
     exact hn
    ·have := HS.out k j hj h
     rw [rdU_get l hlt] at hge
     omega)
   clear hn hge he
   go_region
   go_wp2
   go_ret
   exact ⟨by rw [HI.out]; rfl, below_drew HB3.out⟩
theorem ufind_any (l : List Usr) (A : Option Addr) (c : Nat) (no : Int) (w : World) (hr : kU.C w A l.length l) :
  Calls Try.prog 28 #[.slice A l.length c, .int .i64 no] w fun e w' => e = .returned (.int .i64 (findU l no)) ∧ Below w.heap.size w w' := by
 unfold findU
 cases hm : mayU l
 ·exact ufind_0 l A c no w hr hm
 ·exact ufind_1 l A c no w hr hm
/-- A user's role, or -1. -/
def roleU (l : List Usr) (no : Int) : Int := if findU l no = -1 then -1 else (rdU l (findU l no)).role
set_option maxHeartbeats 2000000 in
theorem urole_any (l : List Usr) (A : Option Addr) (c : Nat) (no : Int) (w : World) (hr : kU.C w A l.length l) :
  Calls Try.prog 72 #[.slice A l.length c, .int .i64 no] w fun e w' => e = .returned (.int .i64 (roleU l no)) ∧ Below w.heap.size w w' := by
 have HR := aq_ hr
 have hge : -1 ≤ findU l no ∧ findU l no < l.length := by
  unfold findU
  split
  ·exact idxU_ge no l
  ·omega
 unfold roleU
 obtain ⟨r, hr0⟩ : ∃ r, findU l no = r := ⟨_, rfl⟩
 have HF := aq_ hr0
 rw [hr0] at hge
 rw [hr0]
 clear hr hr0
 by_cases hn : r = -1
 ·subst hn
  rw [if_pos rfl]
  clear hge
  go_enter Try.func72, Try.ntmps72
  go_wp2_with (go_at_call 28; (with_reducible refine (ufind_any l A c no _ HR.out).mono ?_); rw [HF.out]; rintro e w2 ⟨rfl, hb⟩; have HB2 := aq_ hb; clear hb)
  go_ret
  exact ⟨rfl, HB2.out⟩
 ·obtain ⟨i, rfl⟩ : ∃ i : Nat, r = i := ⟨r.toNat, by omega⟩
  rw [if_neg hn]
  have hi : i < l.length := by omega
  have ht : ((i : Int) == -1) = false := by simp
  clear hge hn
  go_enter Try.func72, Try.ntmps72
  go_wp2_with (go_at_call 28; (with_reducible refine (ufind_any l A c no _ HR.out).mono ?_); rw [HF.out]; rintro e w2 ⟨rfl, hb⟩; have HB2 := aq_ hb; obtain ⟨ad, A2, c2, rfl, _, a1, _⟩ := at_U (Kd.C_below HR.out HB2.out) i hi; clear hb)
  go_ret
  exact ⟨rfl, HB2.out⟩
theorem ret_ct {P : Program} {tmps : Array Value} {w : World} {fn : Func} {p q : Tmp} {ty : TypeId} (h : fn.results = #[.cell p ty, .tmp q]) {g : Nat} {t : TypeId} {cs : Array Value} {fr : Nat × Nat} {d : TypeDesc} (hp : tmps.getD p undef = .pointer (some ⟨g, 0, none⟩)) (hg : w.heap[g]? = some (.cells cs t fr))
  (hu : P.underlying ty = some d) (hd : (match d with | .struct _ | .array _ _ => true | _ => false) = true) (hi : (P.info? ty).map (·.size) = some cs.size) :
  (results fn tmps).run P w = .ok (.tuple #[.agg cs, tmps.getD q undef]) w := by
 have hp' : tmps[p]?.getD undef = .pointer (some ⟨g, 0, none⟩) := by simpa using hp
 simp [results, h, hp', asAddr, run_loadVar_row w g t ty cs fr d hg hu hd hi]
theorem ret_3t {tmps : Array Value} {w : World} {fn : Func} {p q : Tmp} (h : fn.results = #[.cell p 32, .tmp q]) {g : Nat} {a b c u : Value} (hp : tmps.getD p undef = .pointer (some ⟨g, 0, none⟩)) (hq : tmps.getD q undef = u) (hg : w.heap[g]? = some (.cells #[a, b, c] 32 (0, 0))) :
  (results fn tmps).run Try.prog w = .ok (.tuple #[.agg #[a, b, c], u]) w := by
 rw [← hq]
 exact ret_ct h hp hg Try.underlying32 rfl (by kernel_rfl)
def keyT (x : Ses) : S24 := if hasS x = true then tagT ⟨1, x.user, []⟩ [x.epoch, x.draw, x.cn, x.user] else z24
theorem wi64 {x : Int} (h0 : -9223372036854775808 ≤ x) (h1 : x < 9223372036854775808) : IntKind.i64.wrap x = x := by
 rw [i64_w]
 exact w64 h0 h1
theorem has_parts {x : Ses} (h : hasS x = true) : (1 ≤ x.user ∧ x.user ≤ 255) ∧ (0 ≤ x.epoch ∧ x.epoch ≤ 1073741824) ∧ x.draw < 4611686018427387904 ∧ x.cn < 4611686018427387904 := by
 simpa [hasS, inB] using h
theorem lit_C {W : World} {g : Nat} {t : TypeId} {l : List Int} (h : W.heap[g]? = some (.cells (l.map (Value.int .i64)).toArray t (0, 0))) (hl : l.length ≤ 1000) : (Kd.int .i64).C W (some ⟨g, 0, none⟩) l.length l := by
 refine ⟨rfl, by omega, fun _ => ⟨⟨g, 0, none⟩, rfl, fun j p hp => ⟨[.int .i64 p], rfl, rfl, fun q u hu => ?_⟩⟩⟩
 have hq : q = 0 := by
  have := (List.getElem?_eq_some_iff.1 hu).1
  simp at this
  exact this
 subst hq
 have hu' : u = .int .i64 p := by simpa using hu.symm
 subst hu'
 show W.cell? ((⟨g, 0, none⟩ : Addr).add (j * 1 + 0)) = _
 rw [Nat.mul_one, Nat.add_zero, add_plain, blk_cell h]
 simp [hp]
set_option maxHeartbeats 2000000 in
theorem key_0 (x : Ses) (w : World) (hh : hasS x = false) :
  Calls Try.prog 6 #[.agg (sca x)] w fun e w' => e = .returned (.tuple #[.agg #[.int .i64 0, .int .i64 0, .slice none 0 0], .bool false]) ∧ Below w.heap.size w w' := by
 have HB := aq_ (Below.refl w.heap.size w)
 have HH := aq_ hh
 clear hh
 go_enter Try.func6, Try.ntmps6
 go_upto_region 1 with (fail)
 obtain ⟨W, hW⟩ : ∃ W, W = (w.alloc (.cells (sca x) 26)).alloc (.cells #[.int .i64 0, .int .i64 0, .slice none 0 0] 32) := ⟨_, rfl⟩
 rw [← hW]
 have X1 := aq_ (show W.heap[w.heap.size]? = some (.cells (sca x) 26 (0, 0)) by rw [hW]; exact (two_new w _ _).1)
 have X2 := aq_ (show W.heap[w.heap.size + 1]? = some (.cells #[.int .i64 0, .int .i64 0, .slice none 0 0] 32 (0, 0)) by rw [hW]; exact (two_new w _ _).2)
 have HB1 := aq_ (show Below w.heap.size w W by rw [hW]; exact below_alloc (below_alloc HB.out _) _)
 clear hW
 go_upto_region 2 with (first
  | (with_reducible refine load_S (.tmp 1) rfl rfl (p := ⟨w.heap.size, 0, none⟩) rfl (cells_box X1.out) ?_)
  | (go_at_call 17; (with_reducible refine (has_any x _).mono ?_); rw [HH.out]; rintro e w3 ⟨rfl, hb⟩; have Y2 := aq_ (blk_below X2.out hb); have HB3 := aq_ (below_step HB1.out hb); clear hb))
 obtain ⟨⟨r0, r1, r2⟩, f0, f1, f2⟩ := cells3 Y2.out
 go_wp2
 refine bodyPost_ret (v := .tuple #[.agg #[.int .i64 0, .int .i64 0, .slice none 0 0], .bool false]) (ret_3t rfl (g := w.heap.size + 1) rfl rfl (put_3 Y2.out)) rfl ⟨rfl, below_put3 HB3.out (Nat.le_succ _) _ _ _⟩
set_option maxHeartbeats 2000000 in
theorem key_1 (x : Ses) (w : World) (hh : hasS x = true) (hd : 0 ≤ x.draw) (hc : 0 ≤ x.cn) :
  Calls Try.prog 6 #[.agg (sca x)] w fun e w' => ∃ v2, e = .returned (.tuple #[.agg #[.int .i64 3, .int .i64 0, v2], .bool true]) ∧ Kd.V k24 32 w' w.heap.size (fun j => w.heap.size ≤ j) v2 [⟨1, x.user, []⟩, rowR [x.epoch, x.draw, x.cn, x.user]] ∧ Below w.heap.size w w' := by
 have HB := aq_ (Below.refl w.heap.size w)
 have HH := aq_ hh
 obtain ⟨_, _, h1, h2⟩ := has_parts hh
 have e1 := wi64 (x := x.draw) (by omega) (by omega)
 have e2 := wi64 (x := x.cn) (by omega) (by omega)
 clear hh
 go_enter Try.func6, Try.ntmps6
 go_upto_region 1 with (fail)
 obtain ⟨W, hW⟩ : ∃ W, W = (w.alloc (.cells (sca x) 26)).alloc (.cells #[.int .i64 0, .int .i64 0, .slice none 0 0] 32) := ⟨_, rfl⟩
 rw [← hW]
 have X1 := aq_ (show W.heap[w.heap.size]? = some (.cells (sca x) 26 (0, 0)) by rw [hW]; exact (two_new w _ _).1)
 have X2 := aq_ (show W.heap[w.heap.size + 1]? = some (.cells #[.int .i64 0, .int .i64 0, .slice none 0 0] 32 (0, 0)) by rw [hW]; exact (two_new w _ _).2)
 have HB1 := aq_ (show Below w.heap.size w W by rw [hW]; exact below_alloc (below_alloc HB.out _) _)
 clear hW
 go_upto_region 3 with (first
  | (with_reducible refine load_S (.tmp 1) rfl rfl (p := ⟨w.heap.size, 0, none⟩) rfl (cells_box X1.out) ?_)
  | (go_at_call 17; (with_reducible refine (has_any x _).mono ?_); rw [HH.out]; rintro e w3 ⟨rfl, hb⟩; have Y1 := aq_ (blk_below X1.out hb); have Y2 := aq_ (blk_below X2.out hb); have HB3 := aq_ (below_step HB1.out hb); clear hb))
 obtain ⟨c0, c1, c2, c3, _⟩ := cellsS Y1.out
 have HC := aq_ (lit_C (l := [x.epoch, x.draw, x.cn, x.user]) (blk_new w3 (.cells ([x.epoch, x.draw, x.cn, x.user].map (Value.int .i64)).toArray 3)) (by simp))
 have Z2 := aq_ (blk_alloc Y2.out (.cells ([x.epoch, x.draw, x.cn, x.user].map (Value.int .i64)).toArray 3))
 have HB4 := aq_ (below_alloc HB3.out (.cells ([x.epoch, x.draw, x.cn, x.user].map (Value.int .i64)).toArray 3))
 go_wp2_with (go_at_call 16; go_loud (refine (tag_any ⟨1, x.user, []⟩ (.slice none 0 0) [x.epoch, x.draw, x.cn, x.user] (some ⟨w3.heap.size, 0, none⟩) 4 0 (fun _ => False) _ (Kd.V_nil _ _ _ _ _) HC.out (Nat.le_refl _)).mono ?_); rintro e w5 ⟨v5, rfl, hV, hb⟩; obtain ⟨A5, k5, rfl⟩ := Kd.V_slice hV; have HV := aq_ hV; have U2 := aq_ (blk_below Z2.out hb); have HB5 := aq_ (below_step HB4.out hb); obtain ⟨⟨r0, r1, r2⟩, f0, f1, f2⟩ := cells3 U2.out; have hLE := aq_ HB4.out.size; clear hb hV)
 refine bodyPost_ret (v := .tuple #[.agg #[.int .i64 3, .int .i64 0, .slice A5 [(⟨1, x.user, []⟩ : S24), rowR [x.epoch, x.draw, x.cn, x.user]].length k5], .bool true]) (ret_3t rfl (g := w.heap.size + 1) rfl rfl (put_3 U2.out)) rfl ⟨_, rfl, ?_, below_put3 HB5.out (Nat.le_succ _) _ _ _⟩
 have hs : w.heap.size + 1 < w3.heap.size := blk_lt Y2.out
 refine V_put3 (Kd.V_mono HV.out (ok' := fun j => w.heap.size ≤ j ∧ j ≠ w.heap.size + 1) ?_) (fun j hj => hj.2) |> fun h => Kd.V_mono h fun j hj => hj.1
 intro j hj
 rcases hj with hj | hj
 ·exact hj.elim
 ·rw [size_al] at hj
  exact ⟨by omega, by omega⟩
theorem key_any (x : Ses) (w : World) (hd : 0 ≤ x.draw) (hc : 0 ≤ x.cn) :
  Calls Try.prog 6 #[.agg (sca x)] w fun e w' => ∃ v2, e = .returned (.tuple #[.agg #[.int .i64 (keyT x).f0, .int .i64 (keyT x).f1, v2], .bool (hasS x)]) ∧ Kd.V k24 32 w' w.heap.size (fun j => w.heap.size ≤ j) v2 (keyT x).f2 ∧ Below w.heap.size w w' := by
 unfold keyT
 cases h : hasS x
 ·refine (key_0 x w h).mono ?_
  rintro e w' ⟨rfl, hb⟩
  exact ⟨_, rfl, Kd.V_nil _ _ _ _ _, hb⟩
 ·exact key_1 x w h hd hc
end Go.Proofs.Ytdinphnljokigaa.P
end
