/- What LawSymAgree rests on, part 16: several texts put together. -/
import Derived.Test.YtdinphnljokigaaGreatS15
import Derived.Test.YtdinphnljokigaaGreatS12
import Derived.Test.YtdinphnljokigaaGreatS3
set_option linter.unusedVariables false
set_option linter.unnecessarySimpa false
set_option linter.unusedSimpArgs false
set_option maxRecDepth 100000
section
namespace Go.Proofs.YtdinphnljokigaaGreat.P
open Go.RowKit Go.Lib Go.Proofs.YtdinphnljokigaaGreatW.PrintWords Go.Proofs.YtdinphnljokigaaGreatW.PrintLast Go.Proofs.YtdinphnljokigaaGreatW.PrintMore
def putB (f : Frm) : List Int := if plainF f = true then (if tagK f.kind = true then textB f ++ f.tag.1 else textB f) else []
theorem tag_C {w : World} {g : Nat} {t : TypeId} {f : Frm} (h : w.heap[g]? = some (.cells (fca f) t (0, 0))) : (Kd.int .u8).C w (some ⟨g, 8, none⟩) 32 f.tag.1 := by
 refine ⟨f.tag.2, by decide, fun _ => ⟨⟨g, 8, none⟩, rfl, fun j p hp => ⟨[.int .u8 p], rfl, rfl, fun q u hu => ?_⟩⟩⟩
 have hq : q = 0 := by
  have := (List.getElem?_eq_some_iff.1 hu).1
  simp at this
  exact this
 subst hq
 have hu' : u = .int .u8 p := by simpa using hu.symm
 subst hu'
 have hc := tag_cells h j (.int .u8 p) (by simp [kca, hp])
 show w.cell? ((⟨g, 8, none⟩ : Addr).add (j * 1 + 0)) = _
 rw [Nat.mul_one, Nat.add_zero]
 exact hc
theorem text_len {f : Frm} (hp : plainF f = true) (hw : wfF f) : (textB f).length ≤ 1000 := by
 obtain ⟨n1, n2, n3⟩ := nums_ok hp hw
 have h : ∀ l : List S41, (∀ x ∈ l, fits x.f0 x.f1) → (catL l).length ≤ 8 * l.length := by
  intro l
  induction l with
  | nil => intro _; simp [catL]
  | cons x l ih =>
   intro hf
   have h1 := ih fun y hy => hf y (by simp [hy])
   have h2 := hf x (by simp)
   rw [catL_cons, List.length_append, be_length, List.length_cons]
   have := h2.2.1
   omega
 have := h _ n3
 unfold textB
 omega
set_option maxHeartbeats 2000000 in
theorem put_0 (f : Frm) (w : World) (hp : plainF f = false) :
  Calls Tryz.prog 68 #[.agg (fca f)] w fun e w' => ∃ v, e = .returned (.tuple #[v, .bool false]) ∧ Kd.R (Kd.int .u8) 5 w' w.heap.size (fun _ => True) v [] ∧ Below w.heap.size w w' := by
 have HB := aq_ (Below.refl w.heap.size w)
 have HP := aq_ hp
 clear hp
 go_enter Tryz.func68, Tryz.ntmps68
 go_upto_region 1 with (with_reducible refine box_Fr (.tmp 0) (f := f) rfl rfl rfl ?_; intro g1 hg w1 hbox hb; have HB1 := aq_ (below_step HB.out hb); have X1 := aq_ hbox; have L1 := aq_ (Nat.le_of_eq hg.symm); clear hg hbox hb HB)
 go_wp2_with (first
  | (with_reducible refine load_F (.tmp 1) rfl rfl (p := ⟨g1, 0, none⟩) rfl (cells_boxF X1.out) ?_)
  | (go_at_call 89; (with_reducible refine (plain_any f _).mono ?_); rw [HP.out]; rintro e w2 ⟨rfl, hb⟩; have HB2 := aq_ (below_step HB1.out hb); clear hb))
 go_ret2
 exact ⟨_, rfl, Kd.R_nil _ _ _ _ _, HB2.out⟩
set_option maxHeartbeats 2000000 in
theorem put_1 (f : Frm) (w : World) (hp : plainF f = true) (hw : wfF f) (ht : tagK f.kind = false) :
  Calls Tryz.prog 68 #[.agg (fca f)] w fun e w' => ∃ v, e = .returned (.tuple #[v, .bool true]) ∧ Kd.R (Kd.int .u8) 5 w' w.heap.size (fun _ => True) v (textB f) ∧ Below w.heap.size w w' := by
 have HW := aq_ hw
 have HT := aq_ ht
 clear hw ht
 have HB := aq_ (Below.refl w.heap.size w)
 have HP := aq_ hp
 clear hp
 go_enter Tryz.func68, Tryz.ntmps68
 go_upto_region 1 with (with_reducible refine box_Fr (.tmp 0) (f := f) rfl rfl rfl ?_; intro g1 hg w1 hbox hb; have HB1 := aq_ (below_step HB.out hb); have X1 := aq_ hbox; have L1 := aq_ (Nat.le_of_eq hg.symm); clear hg hbox hb HB)
 go_upto_region 4 with (first
  | (with_reducible refine load_F (.tmp 1) rfl rfl (p := ⟨g1, 0, none⟩) rfl (cells_boxF X1.out) ?_)
  | (go_at_call 89; (with_reducible refine (plain_any f _).mono ?_); rw [HP.out]; rintro e w2 ⟨rfl, hb⟩; have HB2 := aq_ (below_step HB1.out hb); have X2 := aq_ (blk_below X1.out hb); clear hb HB1 X1; have HB1 := HB2; have X1 := X2; clear HB2 X2)
  | (go_at_call 90; (with_reducible refine (text_any f _ HP.out HW.out).mono ?_); rw [HT.out]; rintro e w3 ⟨v3, rfl, hR, hb⟩; have HR := aq_ (Kd.R_lower hR HB1.out.size); have HB2 := aq_ (below_step HB1.out hb); have X2 := aq_ (blk_below X1.out hb); clear hR hb HB1 X1; have HB1 := HB2; have X1 := X2; clear HB2 X2))
 go_wp2
 go_ret2
 exact ⟨_, rfl, HR.out, HB1.out⟩
set_option maxHeartbeats 2000000 in
theorem put_2 (f : Frm) (w : World) (hp : plainF f = true) (hw : wfF f) (ht : tagK f.kind = true) :
  Calls Tryz.prog 68 #[.agg (fca f)] w fun e w' => ∃ v, e = .returned (.tuple #[v, .bool true]) ∧ Kd.R (Kd.int .u8) 5 w' w.heap.size (fun _ => True) v (textB f ++ f.tag.1) ∧ Below w.heap.size w w' := by
 have HW := aq_ hw
 have HT := aq_ ht
 clear hw ht
 have HB := aq_ (Below.refl w.heap.size w)
 have HP := aq_ hp
 clear hp
 go_enter Tryz.func68, Tryz.ntmps68
 go_upto_region 1 with (with_reducible refine box_Fr (.tmp 0) (f := f) rfl rfl rfl ?_; intro g1 hg w1 hbox hb; have HB1 := aq_ (below_step HB.out hb); have X1 := aq_ hbox; have L1 := aq_ (Nat.le_of_eq hg.symm); clear hg hbox hb HB)
 go_upto_region 4 with (first
  | (with_reducible refine load_F (.tmp 1) rfl rfl (p := ⟨g1, 0, none⟩) rfl (cells_boxF X1.out) ?_)
  | (go_at_call 89; (with_reducible refine (plain_any f _).mono ?_); rw [HP.out]; rintro e w2 ⟨rfl, hb⟩; have HB2 := aq_ (below_step HB1.out hb); have X2 := aq_ (blk_below X1.out hb); clear hb HB1 X1; have HB1 := HB2; have X1 := X2; clear HB2 X2)
  | (go_at_call 90; (with_reducible refine (text_any f _ HP.out HW.out).mono ?_); rw [HT.out]; rintro e w3 ⟨v3, rfl, hR, hb⟩; have HR := aq_ (Kd.R_lower hR HB1.out.size); have HB2 := aq_ (below_step HB1.out hb); have X2 := aq_ (blk_below X1.out hb); clear hR hb HB1 X1; have HB1 := HB2; have X1 := X2; clear HB2 X2))
 go_wp2_with ((with_reducible refine gate_builtin (b := .append) (xs := #[.tmp 15, .tmp 17]) rfl ?_); at_builtin; go_loud (refine Kd.R_append_rows (Kd.int .u8) (w0 := w) w.heap.size rfl (.tmp 15) (.tmp 17) 64 5 (.int .u8 0) 1 rfl Tryz.underlying64 info5 rfl (by decide) (by decide) v3 (textB f) f.tag.1 _ _ _ (fun _ => True) (fun _ => False) rfl rfl HR.out (tag_C X1.out) (fun _ _ h => h) (fun _ h => h.elim) (fun _ _ => trivial) HB1.out HB1.out.size ?_ ?_); (· have := text_len HP.out HW.out; omega); intro v4 w4 ho hb hg hat; have HR4 := aq_ ho; have HB4 := aq_ hb; clear ho hb hg hat)
 go_ret2
 exact ⟨_, rfl, HR4.out, HB4.out⟩
theorem put_any (f : Frm) (w : World) (hw : wfF f) :
  Calls Tryz.prog 68 #[.agg (fca f)] w fun e w' => ∃ v, e = .returned (.tuple #[v, .bool (plainF f)]) ∧ Kd.R (Kd.int .u8) 5 w' w.heap.size (fun _ => True) v (putB f) ∧ Below w.heap.size w w' := by
 unfold putB
 cases hp : plainF f
 ·exact put_0 f w hp
 ·cases ht : tagK f.kind
  ·exact put_1 f w hp hw ht
  ·exact put_2 f w hp hw ht
theorem build_I0 (w : World) : (Instr.build 29 #[]).run Tryz.prog w = .ok (.agg (kca zkey)) w := by kernel_rfl
theorem eql_I (w : World) (k l : Key) : (binOp .eql 29 (.agg (kca k)) (.agg (kca l))).run Tryz.prog w = .ok (.bool (decide (k = l))) w := by
 show (do pure (Value.bool (← Op.equal 29 (.agg (kca k)) (.agg (kca l)))) : Sem Value).run Tryz.prog w = _
 have h : (Op.equal 29 (.agg (kca k)) (.agg (kca l))).run Tryz.prog w = .ok (decide (k.1 = l.1)) w := eq_key w 9998 k l
 simp only [Sem.run_bind, h, Result.andThen_ok, Sem.run_pure]
 congr 2
 rw [decide_eq_decide]
 exact ⟨Subtype.ext, fun h => by rw [h]⟩
section
variable {ops : Array Oper} {rest : List Oper} {o : Oper} {a : Act} {w : World} {Q : Exit → Act → World → Prop}
theorem build_Ie (ho : o.op = .build 29 #[]) (hgd : o.guard = none) (h : wpList Tryz.prog ops Q rest (a.put o.dst (.agg (kca zkey))) w) : wpList Tryz.prog ops Q (o :: rest) a w := by
 refine Kd.event_run hgd (v := .agg (kca zkey)) ?_ h
 unfold execOp
 simp only [ho, List.map_toArray, List.map_nil, Sem.run_bind, build_I0, Result.andThen_ok, Sem.run_pure]
end
def bareB (f : Frm) : Bool := plainF f && decide (f.tag = zkey)
set_option maxHeartbeats 2000000 in
theorem sbare_0 (f : Frm) (w : World) (hw : wfF f) (hp : plainF f = false) :
  Calls Tryz.prog 35 #[.agg (fca f)] w fun e w' => e = .returned (.bool false) ∧ Below w.heap.size w w' := by
 have HB := aq_ (Below.refl w.heap.size w)
 have HW := aq_ hw
 have HP := aq_ hp
 clear hw hp
 go_enter Tryz.func35, Tryz.ntmps35
 go_upto_region 1 with (with_reducible refine box_Fr (.tmp 0) (f := f) rfl rfl rfl ?_; intro g1 hg w1 hbox hb; have HB1 := aq_ (below_step HB.out hb); have X1 := aq_ hbox; clear hg hbox hb HB)
 go_upto_region 2 with (first
  | (with_reducible refine load_F (.tmp 1) rfl rfl (p := ⟨g1, 0, none⟩) rfl (cells_boxF X1.out) ?_)
  | (go_at_call 68; (with_reducible refine (put_any f _ HW.out).mono ?_); rw [HP.out]; rintro e w2 ⟨v2, rfl, _, hb⟩; have HB2 := aq_ (below_step HB1.out hb); have X2 := aq_ (blk_below X1.out hb); clear hb HB1 X1))
 go_wp2
 go_ret
 exact ⟨rfl, HB2.out⟩
set_option maxHeartbeats 2000000 in
theorem sbare_1 (f : Frm) (w : World) (hw : wfF f) (hp : plainF f = true) :
  Calls Tryz.prog 35 #[.agg (fca f)] w fun e w' => e = .returned (.bool (decide (f.tag = zkey))) ∧ Below w.heap.size w w' := by
 have HB := aq_ (Below.refl w.heap.size w)
 have HW := aq_ hw
 have HP := aq_ hp
 have heq := fun W => eql_I W f.tag zkey
 clear hw hp
 go_enter Tryz.func35, Tryz.ntmps35
 go_upto_region 1 with (with_reducible refine box_Fr (.tmp 0) (f := f) rfl rfl rfl ?_; intro g1 hg w1 hbox hb; have HB1 := aq_ (below_step HB.out hb); have X1 := aq_ hbox; clear hg hbox hb HB)
 go_upto_region 2 with (first
  | (with_reducible refine load_F (.tmp 1) rfl rfl (p := ⟨g1, 0, none⟩) rfl (cells_boxF X1.out) ?_)
  | (go_at_call 68; (with_reducible refine (put_any f _ HW.out).mono ?_); rw [HP.out]; rintro e w2 ⟨v2, rfl, _, hb⟩; have HB2 := aq_ (below_step HB1.out hb); have X2 := aq_ (blk_below X1.out hb); clear hb HB1 X1))
 go_wp2_with (first
  | ((with_reducible refine gate_load 29 (.tmp 12) rfl ?_); (refine gate_guard (by rfl) ?_; dsimp only); refine load_Tg (.tmp 12) rfl rfl rfl X2.out ?_)
  | ((with_reducible refine gate_dst (N := 14) rfl ?_); (refine gate_guard (by rfl) ?_; dsimp only); refine build_Ie rfl rfl ?_))
 go_ret
 exact ⟨rfl, HB2.out⟩
theorem sbare_any (f : Frm) (w : World) (hw : wfF f) :
  Calls Tryz.prog 35 #[.agg (fca f)] w fun e w' => e = .returned (.bool (bareB f)) ∧ Below w.heap.size w w' := by
 unfold bareB
 cases hp : plainF f
 ·exact sbare_0 f w hw hp
 ·rw [Bool.true_and]
  exact sbare_1 f w hw hp
def tagT (k : S24) (l : List Int) : S24 := ⟨3, 0, [k, rowR l]⟩
theorem two_new (w : World) (o1 o2 : Obj) : ((w.alloc o1).alloc o2).heap[w.heap.size]? = some o1 ∧ ((w.alloc o1).alloc o2).heap[w.heap.size + 1]? = some o2 := by
 refine ⟨blk_alloc (blk_new w o1) _, ?_⟩
 rw [← size_al w o1]
 exact blk_new _ _
theorem size_set (w : World) (p : Addr) (v : Value) : (w.setCell p v).heap.size = w.heap.size := World.size_setCell _ _ _
theorem ret_3 {tmps : Array Value} {w : World} {fn : Func} {p : Tmp} (h : fn.results = #[.cell p 36]) {g : Nat} {a b c : Value} (hp : tmps.getD p undef = .pointer (some ⟨g, 0, none⟩)) (hg : w.heap[g]? = some (.cells #[a, b, c] 36 (0, 0))) :
  (results fn tmps).run Tryz.prog w = .ok (.agg #[a, b, c]) w :=
 results_cell_row h tmps w g 36 #[a, b, c] (0, 0) _ hp hg Tryz.underlying36 rfl (by kernel_rfl)
theorem put_3 {w : World} {g : Nat} {t : TypeId} {a b c a' b' c' : Value} (h : w.heap[g]? = some (.cells #[a, b, c] t (0, 0))) : (((w.setCell ⟨g, 0, none⟩ a').setCell ⟨g, 1, none⟩ b').setCell ⟨g, 2, none⟩ c').heap[g]? = some (.cells #[a', b', c'] t (0, 0)) :=
 blk_put (cs := #[a', b', c]) (blk_put (cs := #[a', b, c]) (blk_put h 0 a' rfl) 1 b' rfl) 2 c' rfl
theorem V_put3 {w : World} {g B : Nat} {P : Nat → Prop} {v a' b' c' : Value} {l : List S24} (h : Kd.V k24 36 w B P v l) (hP : ∀ k, P k → k ≠ g) : Kd.V k24 36 (((w.setCell ⟨g, 0, none⟩ a').setCell ⟨g, 1, none⟩ b').setCell ⟨g, 2, none⟩ c') B P v l := by
 refine Kd.V_step h fun k hk _ => ?_
 rw [Below.heap_setCell _ _ _ _ (hP k hk), Below.heap_setCell _ _ _ _ (hP k hk), Below.heap_setCell _ _ _ _ (hP k hk)]
theorem below_put3 {B : Nat} {w0 w : World} (h : Below B w0 w) {g : Nat} (hg : B ≤ g) (a' b' c' : Value) : Below B w0 (((w.setCell ⟨g, 0, none⟩ a').setCell ⟨g, 1, none⟩ b').setCell ⟨g, 2, none⟩ c') := ((h.setCell (p := ⟨g, 0, none⟩) hg a').setCell (p := ⟨g, 1, none⟩) hg b').setCell (p := ⟨g, 2, none⟩) hg c'
set_option maxHeartbeats 2000000 in
theorem tag_any (k : S24) (vk : Value) (l : List Int) (A : Option Addr) (c : Nat) (B : Nat) (P : Nat → Prop) (w : World) (hk : Kd.V k24 36 w B P vk k.f2) (hr : (Kd.int .i64).C w A l.length l) (hc : l.length ≤ c) :
  Calls Tryz.prog 36 #[.agg #[.int .i64 k.f0, .int .i64 k.f1, vk], .slice A l.length c] w fun e w' => ∃ v2, e = .returned (.agg #[.int .i64 3, .int .i64 0, v2]) ∧ Kd.V k24 36 w' w.heap.size (fun j => P j ∨ w.heap.size ≤ j) v2 [k, rowR l] ∧ Below w.heap.size w w' := by
 obtain ⟨Ak, ck, rfl⟩ := Kd.V_slice hk
 have HK := aq_ hk
 have HR := aq_ hr
 have HC := aq_ hc
 have HB := aq_ (Below.refl w.heap.size w)
 clear hk hr hc
 go_enter Tryz.func36, Tryz.ntmps36
 go_upto_region 1 with (fail)
 obtain ⟨W, hW⟩ : ∃ W, W = (w.alloc (.cells #[.int .i64 k.f0, .int .i64 k.f1, .slice Ak k.f2.length ck] 36)).alloc (.cells #[.int .i64 0, .int .i64 0, .slice none 0 0] 36) := ⟨_, rfl⟩
 rw [← hW]
 have X1 := aq_ (show W.heap[w.heap.size]? = some (.cells #[.int .i64 k.f0, .int .i64 k.f1, .slice Ak k.f2.length ck] 36 (0, 0)) by rw [hW]; exact (two_new w _ _).1)
 have X2 := aq_ (show W.heap[w.heap.size + 1]? = some (.cells #[.int .i64 0, .int .i64 0, .slice none 0 0] 36 (0, 0)) by rw [hW]; exact (two_new w _ _).2)
 have HB1 := aq_ (show Below w.heap.size w W by rw [hW]; exact below_alloc (below_alloc HB.out _) _)
 have HS := aq_ (show W.heap.size = w.heap.size + 2 by rw [hW, size_al, size_al])
 clear hW
 go_upto_region 2 with (go_at_call 69; (with_reducible refine (term_Row.calls A c l _ _ _ _ _ (Kd.C_below HR.out HB1.out) HC.out rfl).mono ?_); rintro e w3 ⟨v3, rfl, hR, hb⟩; obtain ⟨A3, c3, rfl⟩ := Kd.V_slice hR; have HR3 := aq_ hR; have Y1 := aq_ (blk_below X1.out hb); have Y2 := aq_ (blk_below X2.out hb); have HB3 := aq_ (below_step HB1.out hb); clear hR hb)
 obtain ⟨⟨p0, p1, p2⟩, _⟩ := cells3 Y1.out
 obtain ⟨⟨r0, r1, r2⟩, f0, f1, f2⟩ := cells3 Y2.out
 have l1 : w.heap.size < w3.heap.size := blk_lt Y1.out
 have l2 : w.heap.size + 1 < w3.heap.size := blk_lt Y2.out
 go_wp2
 refine bodyPost_ret (v := .agg #[.int .i64 3, .int .i64 0, .slice (some ⟨w3.heap.size + 1, 0, none⟩) 2 2]) (ret_3 rfl (g := w.heap.size + 1) rfl (blk_alloc (blk_alloc (put_3 Y2.out) _) _)) rfl ⟨_, rfl, ?_, below_alloc (below_alloc (below_put3 HB3.out (Nat.le_succ _) _ _ _) _) _⟩
 have hK3 : Kd.V k24 36 w3 B (fun j => P j ∧ j < w.heap.size) (.slice Ak k.f2.length ck) k.f2 := Kd.V_below (Kd.V_bound HK.out) HB3.out
 have hR3 := HR3.out
 have hs := HS.out
 have hz := HB3.out.size
 have hsz : ∀ a b c : Value, ((((w3.setCell ⟨w.heap.size + 1, 0, none⟩ a).setCell ⟨w.heap.size + 1, 1, none⟩ b).setCell ⟨w.heap.size + 1, 2, none⟩ c)).heap.size = w3.heap.size := fun a b c => by rw [size_set, size_set, size_set]
 refine V_two (g := w3.heap.size + 1) (a0 := .int .i64 k.f0) (a1 := .int .i64 k.f1) (a2 := .slice Ak k.f2.length ck) (b0 := .int .i64 (rowR l).f0) (b1 := .int .i64 (rowR l).f1) (b2 := .slice A3 (rowR l).f2.length c3) ?_ ?_ ?_ ?_
 ·have h := blk_new (((((w3.setCell ⟨w.heap.size + 1, 0, none⟩ (.int .i64 3)).setCell ⟨w.heap.size + 1, 1, none⟩ (.int .i64 0)).setCell ⟨w.heap.size + 1, 2, none⟩ (.slice (some ⟨w3.heap.size + 1, 0, none⟩) 2 2))).alloc (.cells #[.int .i64 (rowR l).f0, .int .i64 (rowR l).f1, .slice A3 (rowR l).f2.length c3] 36)) (.cells #[.int .i64 k.f0, .int .i64 k.f1, .slice Ak k.f2.length ck, .int .i64 (rowR l).f0, .int .i64 (rowR l).f1, .slice A3 (rowR l).f2.length c3] 36)
  rw [size_al, hsz] at h
  exact h
 ·exact .inr (by omega)
 ·refine FK_of_V (base := B) (Kd.V_alloc (Kd.V_alloc (V_put3 (Kd.V_mono hK3 (ok' := fun j => (P j ∨ w.heap.size ≤ j) ∧ j ≠ w.heap.size + 1) fun j hj => ⟨.inl hj.1, by have := hj.2; omega⟩) (fun j hj => hj.2)) _) _) |> fun h => Kd.FK_mono h fun j hj => hj.1
 ·refine FK_of_V (base := B) (Kd.V_alloc (Kd.V_alloc (V_put3 (Kd.V_mono hR3 (ok' := fun j => (P j ∨ w.heap.size ≤ j) ∧ j ≠ w.heap.size + 1) fun j hj => ⟨.inr (by omega), by omega⟩) (fun j hj => hj.2)) _) _) |> fun h => Kd.FK_mono h fun j hj => hj.1
set_option maxHeartbeats 2000000 in
theorem ufind_0 (l : List Usr) (A : Option Addr) (c : Nat) (no : Int) (w : World) (hr : kU.C w A l.length l) (hm : mayU l = false) :
  Calls Tryz.prog 34 #[.slice A l.length c, .int .i64 no] w fun e w' => e = .returned (.int .i64 (-1)) ∧ Below w.heap.size w w' := by
 have HR := aq_ hr
 have HM := aq_ hm
 clear hr hm
 go_enter Tryz.func34, Tryz.ntmps34
 go_upto_region 1 with (fail)
 obtain ⟨W, hW⟩ : ∃ W, W = (w.alloc (.cells #[.slice A l.length c] 22)).alloc (.cells #[.int .i64 no] 3) := ⟨_, rfl⟩
 rw [← hW]
 have hx := (show W.heap[w.heap.size]? = some (.cells #[.slice A l.length c] 22 (0, 0)) by rw [hW]; exact (two_new w _ _).1)
 have HB1 := aq_ (show Below w.heap.size w W by rw [hW]; exact below_alloc (below_alloc (Below.refl _ _) _) _)
 clear hW
 have p0 : W.cell? ⟨w.heap.size, 0, none⟩ = some (.slice A l.length c) := blk_cell hx 0
 go_wp2_with (go_at_call 42; (with_reducible refine (umay_any l A c _ (Kd.C_below HR.out HB1.out)).mono ?_); rw [HM.out]; rintro e w2 ⟨rfl, hb⟩; have HB2 := aq_ (below_step HB1.out hb); clear hb)
 go_ret
 exact ⟨rfl, HB2.out⟩
set_option maxHeartbeats 2000000 in
theorem ufind_1 (l : List Usr) (A : Option Addr) (c : Nat) (no : Int) (w : World) (hr : kU.C w A l.length l) (hm : mayU l = true) :
  Calls Tryz.prog 34 #[.slice A l.length c, .int .i64 no] w fun e w' => e = .returned (.int .i64 (idxU no l)) ∧ Below w.heap.size w w' := by
 have HR := aq_ hr
 have HM := aq_ hm
 have hm' := hm
 simp only [mayU, Bool.and_eq_true, decide_eq_true_eq] at hm'
 have hl8 : l.length ≤ 8 := by omega
 have HS := aq_ (mayUF_lt l 0 hm'.1)
 clear hr hm hm'
 go_enter Tryz.func34, Tryz.ntmps34
 go_upto_region 1 with (fail)
 obtain ⟨W, hW⟩ : ∃ W, W = (w.alloc (.cells #[.slice A l.length c] 22)).alloc (.cells #[.int .i64 no] 3) := ⟨_, rfl⟩
 rw [← hW]
 have hx := (show W.heap[w.heap.size]? = some (.cells #[.slice A l.length c] 22 (0, 0)) by rw [hW]; exact (two_new w _ _).1)
 have hy := (show W.heap[w.heap.size + 1]? = some (.cells #[.int .i64 no] 3 (0, 0)) by rw [hW]; exact (two_new w _ _).2)
 have HB1 := aq_ (show Below w.heap.size w W by rw [hW]; exact below_alloc (below_alloc (Below.refl _ _) _) _)
 have X1 := aq_ hx
 have Y1 := aq_ hy
 clear hW hy
 have p0 : W.cell? ⟨w.heap.size, 0, none⟩ = some (.slice A l.length c) := blk_cell hx 0
 clear hx
 go_upto_region 4 with (first
  | (go_at_call 42; (with_reducible refine (umay_any l A c _ (Kd.C_below HR.out HB1.out)).mono ?_); rw [HM.out]; rintro e w2 ⟨rfl, hb⟩; have HB2 := aq_ (below_step HB1.out hb); have X2 := aq_ (blk_below X1.out hb); have Y2 := aq_ (blk_below Y1.out hb); have p1 : w2.cell? ⟨w.heap.size, 0, none⟩ = some (.slice A l.length c) := blk_cell X2.out 0; clear hb)
  | (go_at_call 66; (with_reducible refine (search_any l A c no w.heap.size (w.heap.size + 1) _ (Kd.C_below HR.out HB2.out) (by omega) HS.out X2.out Y2.out).mono ?_); rintro e w3 ⟨k, rfl, hk, hk1, hk2, hb⟩; have HB3 := aq_ (below_step HB2.out hb); have X3 := aq_ (blk_below X2.out hb); have Y3 := aq_ (blk_below Y2.out hb); have K1 := aq_ hk1; have K2 := aq_ hk2; clear hb hk1 hk2))
 clear p0 p1
 have q0 : w3.cell? ⟨w.heap.size, 0, none⟩ = some (.slice A l.length c) := blk_cell X3.out 0
 have q1 : w3.cell? ⟨w.heap.size + 1, 0, none⟩ = some (.int .i64 no) := blk_cell Y3.out 0
 by_cases he : k = l.length
 ·have ht : ((k : Int) == (l.length : Int)) = true := by simp [he]
  have HI := aq_ (idxU_none no l fun u hu => by
   obtain ⟨j, hj, rfl⟩ := List.mem_iff_getElem.1 hu
   have := K1.out j (by omega)
   rw [rdU_get l hj] at this
   omega)
  have HE := aq_ he
  clear he
  go_region
  go_wp2
  go_ret
  exact ⟨by rw [HI.out]; rfl, below_drew HB3.out⟩
 ·have ht : ((k : Int) == (l.length : Int)) = false := by simpa using (show ¬ ((k : Int) = (l.length : Int)) by omega)
  have hlt : k < l.length := by omega
  have hge := K2.out k (Nat.le_refl _) hlt
  obtain ⟨ad, A2, c2, rfl, a0, _, _, _⟩ := at_U (Kd.C_below HR.out HB3.out) k hlt
  by_cases hn : (rdU l k).no = no
  ·have hn2 : ((rdU l k).no != no) = false := by simp [hn]
   have HI := aq_ (idxU_at no l k hlt (by rw [← rdU_get l hlt]; exact hn) fun j hj => by
    have := K1.out j hj
    rw [rdU_get l (show j < l.length by omega)] at this
    omega)
   clear hn hge he
   go_region
   go_wp2
   go_ret
   exact ⟨by rw [HI.out]; rfl, below_drew HB3.out⟩
  ·have hn2 : ((rdU l k).no != no) = true := by simpa using hn
   have HI := aq_ (idxU_none no l fun u hu => by
    obtain ⟨j, hj, rfl⟩ := List.mem_iff_getElem.1 hu
    rcases Nat.lt_trichotomy j k with h | h | h
    ·have := K1.out j h
     rw [rdU_get l hj] at this
     omega
    ·subst h
     rw [rdU_get l hj] at hn
     exact hn
    ·have := HS.out k j hj h
     rw [rdU_get l hlt] at hge
     omega)
   clear hn hge he
   go_region
   go_wp2
   go_ret
   exact ⟨by rw [HI.out]; rfl, below_drew HB3.out⟩
theorem ufind_any (l : List Usr) (A : Option Addr) (c : Nat) (no : Int) (w : World) (hr : kU.C w A l.length l) :
  Calls Tryz.prog 34 #[.slice A l.length c, .int .i64 no] w fun e w' => e = .returned (.int .i64 (findU l no)) ∧ Below w.heap.size w w' := by
 unfold findU
 cases hm : mayU l
 ·exact ufind_0 l A c no w hr hm
 ·exact ufind_1 l A c no w hr hm
def roleU (l : List Usr) (no : Int) : Int := if findU l no = -1 then -1 else (rdU l (findU l no)).role
set_option maxHeartbeats 2000000 in
theorem urole_any (l : List Usr) (A : Option Addr) (c : Nat) (no : Int) (w : World) (hr : kU.C w A l.length l) :
  Calls Tryz.prog 17 #[.slice A l.length c, .int .i64 no] w fun e w' => e = .returned (.int .i64 (roleU l no)) ∧ Below w.heap.size w w' := by
 have HR := aq_ hr
 have hge : -1 ≤ findU l no ∧ findU l no < l.length := by
  unfold findU
  split
  ·exact idxU_ge no l
  ·omega
 unfold roleU
 obtain ⟨r, hr0⟩ : ∃ r, findU l no = r := ⟨_, rfl⟩
 have HF := aq_ hr0
 rw [hr0] at hge
 rw [hr0]
 clear hr hr0
 by_cases hn : r = -1
 ·subst hn
  rw [if_pos rfl]
  clear hge
  go_enter Tryz.func17, Tryz.ntmps17
  go_wp2_with (go_at_call 34; (with_reducible refine (ufind_any l A c no _ HR.out).mono ?_); rw [HF.out]; rintro e w2 ⟨rfl, hb⟩; have HB2 := aq_ hb; clear hb)
  go_ret
  exact ⟨rfl, HB2.out⟩
 ·obtain ⟨i, rfl⟩ : ∃ i : Nat, r = i := ⟨r.toNat, by omega⟩
  rw [if_neg hn]
  have hi : i < l.length := by omega
  have ht : ((i : Int) == -1) = false := by simp
  clear hge hn
  go_enter Tryz.func17, Tryz.ntmps17
  go_wp2_with (go_at_call 34; (with_reducible refine (ufind_any l A c no _ HR.out).mono ?_); rw [HF.out]; rintro e w2 ⟨rfl, hb⟩; have HB2 := aq_ hb; obtain ⟨ad, A2, c2, rfl, _, a1, _⟩ := at_U (Kd.C_below HR.out HB2.out) i hi; clear hb)
  go_ret
  exact ⟨rfl, HB2.out⟩
theorem ret_ct {P : Program} {tmps : Array Value} {w : World} {fn : Func} {p q : Tmp} {ty : TypeId} (h : fn.results = #[.cell p ty, .tmp q]) {g : Nat} {t : TypeId} {cs : Array Value} {fr : Nat × Nat} {d : TypeDesc} (hp : tmps.getD p undef = .pointer (some ⟨g, 0, none⟩)) (hg : w.heap[g]? = some (.cells cs t fr))
  (hu : P.underlying ty = some d) (hd : (match d with | .struct _ | .array _ _ => true | _ => false) = true) (hi : (P.info? ty).map (·.size) = some cs.size) :
  (results fn tmps).run P w = .ok (.tuple #[.agg cs, tmps.getD q undef]) w := by
 have hp' : tmps[p]?.getD undef = .pointer (some ⟨g, 0, none⟩) := by simpa using hp
 simp [results, h, hp', asAddr, run_loadVar_row w g t ty cs fr d hg hu hd hi]
theorem ret_3t {tmps : Array Value} {w : World} {fn : Func} {p q : Tmp} (h : fn.results = #[.cell p 36, .tmp q]) {g : Nat} {a b c u : Value} (hp : tmps.getD p undef = .pointer (some ⟨g, 0, none⟩)) (hq : tmps.getD q undef = u) (hg : w.heap[g]? = some (.cells #[a, b, c] 36 (0, 0))) :
  (results fn tmps).run Tryz.prog w = .ok (.tuple #[.agg #[a, b, c], u]) w := by
 rw [← hq]
 exact ret_ct h hp hg Tryz.underlying36 rfl (by kernel_rfl)
def keyT (x : Ses) : S24 := if hasS x = true then tagT ⟨1, x.user, []⟩ [x.epoch, x.draw, x.cn, x.user] else z24
theorem wi64 {x : Int} (h0 : -9223372036854775808 ≤ x) (h1 : x < 9223372036854775808) : IntKind.i64.wrap x = x := by
 rw [i64_w]
 exact w64 h0 h1
theorem has_parts {x : Ses} (h : hasS x = true) : (1 ≤ x.user ∧ x.user ≤ 255) ∧ (0 ≤ x.epoch ∧ x.epoch ≤ 1073741824) ∧ x.draw < 4611686018427387904 ∧ x.cn < 4611686018427387904 := by
 simpa [hasS, inB] using h
theorem lit_C {W : World} {g : Nat} {t : TypeId} {l : List Int} (h : W.heap[g]? = some (.cells (l.map (Value.int .i64)).toArray t (0, 0))) (hl : l.length ≤ 1000) : (Kd.int .i64).C W (some ⟨g, 0, none⟩) l.length l := by
 refine ⟨rfl, by omega, fun _ => ⟨⟨g, 0, none⟩, rfl, fun j p hp => ⟨[.int .i64 p], rfl, rfl, fun q u hu => ?_⟩⟩⟩
 have hq : q = 0 := by
  have := (List.getElem?_eq_some_iff.1 hu).1
  simp at this
  exact this
 subst hq
 have hu' : u = .int .i64 p := by simpa using hu.symm
 subst hu'
 show W.cell? ((⟨g, 0, none⟩ : Addr).add (j * 1 + 0)) = _
 rw [Nat.mul_one, Nat.add_zero, add_plain, blk_cell h]
 simp [hp]
set_option maxHeartbeats 2000000 in
theorem key_0 (x : Ses) (w : World) (hh : hasS x = false) :
  Calls Tryz.prog 21 #[.agg (sca x)] w fun e w' => e = .returned (.tuple #[.agg #[.int .i64 0, .int .i64 0, .slice none 0 0], .bool false]) ∧ Below w.heap.size w w' := by
 have HB := aq_ (Below.refl w.heap.size w)
 have HH := aq_ hh
 clear hh
 go_enter Tryz.func21, Tryz.ntmps21
 go_upto_region 1 with (fail)
 obtain ⟨W, hW⟩ : ∃ W, W = (w.alloc (.cells (sca x) 33)).alloc (.cells #[.int .i64 0, .int .i64 0, .slice none 0 0] 36) := ⟨_, rfl⟩
 rw [← hW]
 have X1 := aq_ (show W.heap[w.heap.size]? = some (.cells (sca x) 33 (0, 0)) by rw [hW]; exact (two_new w _ _).1)
 have X2 := aq_ (show W.heap[w.heap.size + 1]? = some (.cells #[.int .i64 0, .int .i64 0, .slice none 0 0] 36 (0, 0)) by rw [hW]; exact (two_new w _ _).2)
 have HB1 := aq_ (show Below w.heap.size w W by rw [hW]; exact below_alloc (below_alloc HB.out _) _)
 clear hW
 go_upto_region 2 with (first
  | (with_reducible refine load_S (.tmp 1) rfl rfl (p := ⟨w.heap.size, 0, none⟩) rfl (cells_box X1.out) ?_)
  | (go_at_call 39; (with_reducible refine (has_any x _).mono ?_); rw [HH.out]; rintro e w3 ⟨rfl, hb⟩; have Y2 := aq_ (blk_below X2.out hb); have HB3 := aq_ (below_step HB1.out hb); clear hb))
 obtain ⟨⟨r0, r1, r2⟩, f0, f1, f2⟩ := cells3 Y2.out
 go_wp2
 refine bodyPost_ret (v := .tuple #[.agg #[.int .i64 0, .int .i64 0, .slice none 0 0], .bool false]) (ret_3t rfl (g := w.heap.size + 1) rfl rfl (put_3 Y2.out)) rfl ⟨rfl, below_put3 HB3.out (Nat.le_succ _) _ _ _⟩
set_option maxHeartbeats 2000000 in
theorem key_1 (x : Ses) (w : World) (hh : hasS x = true) (hd : 0 ≤ x.draw) (hc : 0 ≤ x.cn) :
  Calls Tryz.prog 21 #[.agg (sca x)] w fun e w' => ∃ v2, e = .returned (.tuple #[.agg #[.int .i64 3, .int .i64 0, v2], .bool true]) ∧ Kd.V k24 36 w' w.heap.size (fun j => w.heap.size ≤ j) v2 [⟨1, x.user, []⟩, rowR [x.epoch, x.draw, x.cn, x.user]] ∧ Below w.heap.size w w' := by
 have HB := aq_ (Below.refl w.heap.size w)
 have HH := aq_ hh
 obtain ⟨_, _, h1, h2⟩ := has_parts hh
 have e1 := wi64 (x := x.draw) (by omega) (by omega)
 have e2 := wi64 (x := x.cn) (by omega) (by omega)
 clear hh
 go_enter Tryz.func21, Tryz.ntmps21
 go_upto_region 1 with (fail)
 obtain ⟨W, hW⟩ : ∃ W, W = (w.alloc (.cells (sca x) 33)).alloc (.cells #[.int .i64 0, .int .i64 0, .slice none 0 0] 36) := ⟨_, rfl⟩
 rw [← hW]
 have X1 := aq_ (show W.heap[w.heap.size]? = some (.cells (sca x) 33 (0, 0)) by rw [hW]; exact (two_new w _ _).1)
 have X2 := aq_ (show W.heap[w.heap.size + 1]? = some (.cells #[.int .i64 0, .int .i64 0, .slice none 0 0] 36 (0, 0)) by rw [hW]; exact (two_new w _ _).2)
 have HB1 := aq_ (show Below w.heap.size w W by rw [hW]; exact below_alloc (below_alloc HB.out _) _)
 clear hW
 go_upto_region 3 with (first
  | (with_reducible refine load_S (.tmp 1) rfl rfl (p := ⟨w.heap.size, 0, none⟩) rfl (cells_box X1.out) ?_)
  | (go_at_call 39; (with_reducible refine (has_any x _).mono ?_); rw [HH.out]; rintro e w3 ⟨rfl, hb⟩; have Y1 := aq_ (blk_below X1.out hb); have Y2 := aq_ (blk_below X2.out hb); have HB3 := aq_ (below_step HB1.out hb); clear hb))
 obtain ⟨c0, c1, c2, c3, _⟩ := cellsS Y1.out
 have HC := aq_ (lit_C (l := [x.epoch, x.draw, x.cn, x.user]) (blk_new w3 (.cells ([x.epoch, x.draw, x.cn, x.user].map (Value.int .i64)).toArray 3)) (by simp))
 have Z2 := aq_ (blk_alloc Y2.out (.cells ([x.epoch, x.draw, x.cn, x.user].map (Value.int .i64)).toArray 3))
 have HB4 := aq_ (below_alloc HB3.out (.cells ([x.epoch, x.draw, x.cn, x.user].map (Value.int .i64)).toArray 3))
 go_wp2_with (go_at_call 36; go_loud (refine (tag_any ⟨1, x.user, []⟩ (.slice none 0 0) [x.epoch, x.draw, x.cn, x.user] (some ⟨w3.heap.size, 0, none⟩) 4 0 (fun _ => False) _ (Kd.V_nil _ _ _ _ _) HC.out (Nat.le_refl _)).mono ?_); rintro e w5 ⟨v5, rfl, hV, hb⟩; obtain ⟨A5, k5, rfl⟩ := Kd.V_slice hV; have HV := aq_ hV; have U2 := aq_ (blk_below Z2.out hb); have HB5 := aq_ (below_step HB4.out hb); obtain ⟨⟨r0, r1, r2⟩, f0, f1, f2⟩ := cells3 U2.out; have hLE := aq_ HB4.out.size; clear hb hV)
 refine bodyPost_ret (v := .tuple #[.agg #[.int .i64 3, .int .i64 0, .slice A5 [(⟨1, x.user, []⟩ : S24), rowR [x.epoch, x.draw, x.cn, x.user]].length k5], .bool true]) (ret_3t rfl (g := w.heap.size + 1) rfl rfl (put_3 U2.out)) rfl ⟨_, rfl, ?_, below_put3 HB5.out (Nat.le_succ _) _ _ _⟩
 have hs : w.heap.size + 1 < w3.heap.size := blk_lt Y2.out
 refine V_put3 (Kd.V_mono HV.out (ok' := fun j => w.heap.size ≤ j ∧ j ≠ w.heap.size + 1) ?_) (fun j hj => hj.2) |> fun h => Kd.V_mono h fun j hj => hj.1
 intro j hj
 rcases hj with hj | hj
 ·exact hj.elim
 ·rw [size_al] at hj
  exact ⟨by omega, by omega⟩
theorem key_any (x : Ses) (w : World) (hd : 0 ≤ x.draw) (hc : 0 ≤ x.cn) :
  Calls Tryz.prog 21 #[.agg (sca x)] w fun e w' => ∃ v2, e = .returned (.tuple #[.agg #[.int .i64 (keyT x).f0, .int .i64 (keyT x).f1, v2], .bool (hasS x)]) ∧ Kd.V k24 36 w' w.heap.size (fun j => w.heap.size ≤ j) v2 (keyT x).f2 ∧ Below w.heap.size w w' := by
 unfold keyT
 cases h : hasS x
 ·refine (key_0 x w h).mono ?_
  rintro e w' ⟨rfl, hb⟩
  exact ⟨_, rfl, Kd.V_nil _ _ _ _ _, hb⟩
 ·exact key_1 x w h hd hc
end Go.Proofs.YtdinphnljokigaaGreat.P
end
