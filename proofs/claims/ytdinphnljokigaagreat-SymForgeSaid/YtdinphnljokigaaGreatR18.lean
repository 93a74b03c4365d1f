/- What LawSymForge rests on, part 18: several texts put together. -/
import Derived.Test.YtdinphnljokigaaGreatR17
import Derived.Test.YtdinphnljokigaaGreatR2
set_option linter.unusedVariables false
set_option linter.unnecessarySimpa false
set_option linter.unusedSimpArgs false
set_option maxRecDepth 100000
section
namespace Go.Proofs.YtdinphnljokigaaGreat.P
open Go.RowKit Go.Lib Go.Proofs.YtdinphnljokigaaGreatW.PrintWords Go.Proofs.YtdinphnljokigaaGreatW.PrintLast Go.Proofs.YtdinphnljokigaaGreatW.PrintMore
theorem ret_ct {P : Program} {tmps : Array Value} {w : World} {fn : Func} {p q : Tmp} {ty : TypeId} (h : fn.results = #[.cell p ty, .tmp q]) {g : Nat} {t : TypeId} {cs : Array Value} {fr : Nat × Nat} {d : TypeDesc} (hp : tmps.getD p undef = .pointer (some ⟨g, 0, none⟩)) (hg : w.heap[g]? = some (.cells cs t fr))
  (hu : P.underlying ty = some d) (hd : (match d with | .struct _ | .array _ _ => true | _ => false) = true) (hi : (P.info? ty).map (·.size) = some cs.size) :
  (results fn tmps).run P w = .ok (.tuple #[.agg cs, tmps.getD q undef]) w := by
 have hp' : tmps[p]?.getD undef = .pointer (some ⟨g, 0, none⟩) := by simpa using hp
 simp [results, h, hp', asAddr, run_loadVar_row w g t ty cs fr d hg hu hd hi]
theorem ret_3t {tmps : Array Value} {w : World} {fn : Func} {p q : Tmp} (h : fn.results = #[.cell p 36, .tmp q]) {g : Nat} {a b c u : Value} (hp : tmps.getD p undef = .pointer (some ⟨g, 0, none⟩)) (hq : tmps.getD q undef = u) (hg : w.heap[g]? = some (.cells #[a, b, c] 36 (0, 0))) :
  (results fn tmps).run Tryz.prog w = .ok (.tuple #[.agg #[a, b, c], u]) w := by
 rw [← hq]
 exact ret_ct h hp hg Tryz.underlying36 rfl (by kernel_rfl)
def keyT (x : Ses) : S24 := if hasS x = true then tagT ⟨1, x.user, []⟩ [x.epoch, x.draw, x.cn, x.user] else z24
theorem wi64 {x : Int} (h0 : -9223372036854775808 ≤ x) (h1 : x < 9223372036854775808) : IntKind.i64.wrap x = x := by
 rw [i64_w]
 exact w64 h0 h1
theorem has_parts {x : Ses} (h : hasS x = true) : (1 ≤ x.user ∧ x.user ≤ 255) ∧ (0 ≤ x.epoch ∧ x.epoch ≤ 1073741824) ∧ x.draw < 4611686018427387904 ∧ x.cn < 4611686018427387904 := by
 simpa [hasS, inB] using h
theorem lit_C {W : World} {g : Nat} {t : TypeId} {l : List Int} (h : W.heap[g]? = some (.cells (l.map (Value.int .i64)).toArray t (0, 0))) (hl : l.length ≤ 1000) : (Kd.int .i64).C W (some ⟨g, 0, none⟩) l.length l := by
 refine ⟨rfl, by omega, fun _ => ⟨⟨g, 0, none⟩, rfl, fun j p hp => ⟨[.int .i64 p], rfl, rfl, fun q u hu => ?_⟩⟩⟩
 have hq : q = 0 := by
  have := (List.getElem?_eq_some_iff.1 hu).1
  simp at this
  exact this
 subst hq
 have hu' : u = .int .i64 p := by simpa using hu.symm
 subst hu'
 show W.cell? ((⟨g, 0, none⟩ : Addr).add (j * 1 + 0)) = _
 rw [Nat.mul_one, Nat.add_zero, add_plain, blk_cell h]
 simp [hp]
set_option maxHeartbeats 2000000 in
theorem key_0 (x : Ses) (w : World) (hh : hasS x = false) :
  Calls Tryz.prog 21 #[.agg (sca x)] w fun e w' => e = .returned (.tuple #[.agg #[.int .i64 0, .int .i64 0, .slice none 0 0], .bool false]) ∧ Below w.heap.size w w' := by
 have HB := aq_ (Below.refl w.heap.size w)
 have HH := aq_ hh
 clear hh
 go_enter Tryz.func21, Tryz.ntmps21
 go_upto_region 1 with (fail)
 obtain ⟨W, hW⟩ : ∃ W, W = (w.alloc (.cells (sca x) 33)).alloc (.cells #[.int .i64 0, .int .i64 0, .slice none 0 0] 36) := ⟨_, rfl⟩
 rw [← hW]
 have X1 := aq_ (show W.heap[w.heap.size]? = some (.cells (sca x) 33 (0, 0)) by rw [hW]; exact (two_new w _ _).1)
 have X2 := aq_ (show W.heap[w.heap.size + 1]? = some (.cells #[.int .i64 0, .int .i64 0, .slice none 0 0] 36 (0, 0)) by rw [hW]; exact (two_new w _ _).2)
 have HB1 := aq_ (show Below w.heap.size w W by rw [hW]; exact below_alloc (below_alloc HB.out _) _)
 clear hW
 go_upto_region 2 with (first
  | (with_reducible refine load_S (.tmp 1) rfl rfl (p := ⟨w.heap.size, 0, none⟩) rfl (cells_box X1.out) ?_)
  | (go_at_call 39; (with_reducible refine (has_any x _).mono ?_); rw [HH.out]; rintro e w3 ⟨rfl, hb⟩; have Y2 := aq_ (blk_below X2.out hb); have HB3 := aq_ (below_step HB1.out hb); clear hb))
 obtain ⟨⟨r0, r1, r2⟩, f0, f1, f2⟩ := cells3 Y2.out
 go_wp2
 refine bodyPost_ret (v := .tuple #[.agg #[.int .i64 0, .int .i64 0, .slice none 0 0], .bool false]) (ret_3t rfl (g := w.heap.size + 1) rfl rfl (put_3 Y2.out)) rfl ⟨rfl, below_put3 HB3.out (Nat.le_succ _) _ _ _⟩
set_option maxHeartbeats 2000000 in
theorem key_1 (x : Ses) (w : World) (hh : hasS x = true) (hd : 0 ≤ x.draw) (hc : 0 ≤ x.cn) :
  Calls Tryz.prog 21 #[.agg (sca x)] w fun e w' => ∃ v2, e = .returned (.tuple #[.agg #[.int .i64 3, .int .i64 0, v2], .bool true]) ∧ Kd.V k24 36 w' w.heap.size (fun j => w.heap.size ≤ j) v2 [⟨1, x.user, []⟩, rowR [x.epoch, x.draw, x.cn, x.user]] ∧ Below w.heap.size w w' := by
 have HB := aq_ (Below.refl w.heap.size w)
 have HH := aq_ hh
 obtain ⟨_, _, h1, h2⟩ := has_parts hh
 have e1 := wi64 (x := x.draw) (by omega) (by omega)
 have e2 := wi64 (x := x.cn) (by omega) (by omega)
 clear hh
 go_enter Tryz.func21, Tryz.ntmps21
 go_upto_region 1 with (fail)
 obtain ⟨W, hW⟩ : ∃ W, W = (w.alloc (.cells (sca x) 33)).alloc (.cells #[.int .i64 0, .int .i64 0, .slice none 0 0] 36) := ⟨_, rfl⟩
 rw [← hW]
 have X1 := aq_ (show W.heap[w.heap.size]? = some (.cells (sca x) 33 (0, 0)) by rw [hW]; exact (two_new w _ _).1)
 have X2 := aq_ (show W.heap[w.heap.size + 1]? = some (.cells #[.int .i64 0, .int .i64 0, .slice none 0 0] 36 (0, 0)) by rw [hW]; exact (two_new w _ _).2)
 have HB1 := aq_ (show Below w.heap.size w W by rw [hW]; exact below_alloc (below_alloc HB.out _) _)
 clear hW
 go_upto_region 3 with (first
  | (with_reducible refine load_S (.tmp 1) rfl rfl (p := ⟨w.heap.size, 0, none⟩) rfl (cells_box X1.out) ?_)
  | (go_at_call 39; (with_reducible refine (has_any x _).mono ?_); rw [HH.out]; rintro e w3 ⟨rfl, hb⟩; have Y1 := aq_ (blk_below X1.out hb); have Y2 := aq_ (blk_below X2.out hb); have HB3 := aq_ (below_step HB1.out hb); clear hb))
 obtain ⟨c0, c1, c2, c3, _⟩ := cellsS Y1.out
 have HC := aq_ (lit_C (l := [x.epoch, x.draw, x.cn, x.user]) (blk_new w3 (.cells ([x.epoch, x.draw, x.cn, x.user].map (Value.int .i64)).toArray 3)) (by simp))
 have Z2 := aq_ (blk_alloc Y2.out (.cells ([x.epoch, x.draw, x.cn, x.user].map (Value.int .i64)).toArray 3))
 have HB4 := aq_ (below_alloc HB3.out (.cells ([x.epoch, x.draw, x.cn, x.user].map (Value.int .i64)).toArray 3))
 go_wp2_with (go_at_call 36; go_loud (refine (tag_any ⟨1, x.user, []⟩ (.slice none 0 0) [x.epoch, x.draw, x.cn, x.user] (some ⟨w3.heap.size, 0, none⟩) 4 0 (fun _ => False) _ (Kd.V_nil _ _ _ _ _) HC.out (Nat.le_refl _)).mono ?_); rintro e w5 ⟨v5, rfl, hV, hb⟩; obtain ⟨A5, k5, rfl⟩ := Kd.V_slice hV; have HV := aq_ hV; have U2 := aq_ (blk_below Z2.out hb); have HB5 := aq_ (below_step HB4.out hb); obtain ⟨⟨r0, r1, r2⟩, f0, f1, f2⟩ := cells3 U2.out; have hLE := aq_ HB4.out.size; clear hb hV)
 refine bodyPost_ret (v := .tuple #[.agg #[.int .i64 3, .int .i64 0, .slice A5 [(⟨1, x.user, []⟩ : S24), rowR [x.epoch, x.draw, x.cn, x.user]].length k5], .bool true]) (ret_3t rfl (g := w.heap.size + 1) rfl rfl (put_3 U2.out)) rfl ⟨_, rfl, ?_, below_put3 HB5.out (Nat.le_succ _) _ _ _⟩
 have hs : w.heap.size + 1 < w3.heap.size := blk_lt Y2.out
 refine V_put3 (Kd.V_mono HV.out (ok' := fun j => w.heap.size ≤ j ∧ j ≠ w.heap.size + 1) ?_) (fun j hj => hj.2) |> fun h => Kd.V_mono h fun j hj => hj.1
 intro j hj
 rcases hj with hj | hj
 ·exact hj.elim
 ·rw [size_al] at hj
  exact ⟨by omega, by omega⟩
theorem key_any (x : Ses) (w : World) (hd : 0 ≤ x.draw) (hc : 0 ≤ x.cn) :
  Calls Tryz.prog 21 #[.agg (sca x)] w fun e w' => ∃ v2, e = .returned (.tuple #[.agg #[.int .i64 (keyT x).f0, .int .i64 (keyT x).f1, v2], .bool (hasS x)]) ∧ Kd.V k24 36 w' w.heap.size (fun j => w.heap.size ≤ j) v2 (keyT x).f2 ∧ Below w.heap.size w w' := by
 unfold keyT
 cases h : hasS x
 ·refine (key_0 x w h).mono ?_
  rintro e w' ⟨rfl, hb⟩
  exact ⟨_, rfl, Kd.V_nil _ _ _ _ _, hb⟩
 ·exact key_1 x w h hd hc
end Go.Proofs.YtdinphnljokigaaGreat.P
end
