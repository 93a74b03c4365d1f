/- What LawSymOnce rests on, part 35: several texts put together. -/
import Derived.Test.YtdinphnljokigaaGreatQ34
import Derived.Test.YtdinphnljokigaaGreatQ2
set_option linter.unusedVariables false
set_option linter.unnecessarySimpa false
set_option linter.unusedSimpArgs false
set_option maxRecDepth 100000
section
namespace Go.Proofs.YtdinphnljokigaaGreat.P
open Go.RowKit Go.Lib Go.Proofs.YtdinphnljokigaaGreatW.PrintWords Go.Proofs.YtdinphnljokigaaGreatW.PrintLast Go.Proofs.YtdinphnljokigaaGreatW.PrintMore
def drawsIn (L : List Ac) (ep a : Nat) : List Int := (((L.take a).drop ep).filter beg).map fun x => x.X.draw
def hitB (x y : Ac) : Bool := beg x && (beg y && x.X.draw == y.X.draw)
theorem drawsIn_snoc {L : List Ac} {ep a : Nat} {x : Ac} (ha : L[a]? = some x) (he : ep ≤ a) : drawsIn L ep (a + 1) = if beg x = true then drawsIn L ep a ++ [x.X.draw] else drawsIn L ep a := by
 have hl : a < L.length := (List.getElem?_eq_some_iff.1 ha).1
 unfold drawsIn
 rw [take_snoc ha, List.drop_append_of_le_length (by rw [List.length_take]; omega), List.filter_append, List.map_append]
 cases hb : beg x with
 | true => simp [hb]
 | false => simp [hb]
theorem drawsIn_self (L : List Ac) (a : Nat) : drawsIn L a a = [] := by
 unfold drawsIn
 rw [List.drop_eq_nil_of_le (by rw [List.length_take]; omega)]
 rfl
def noHit (L : List Ac) (x : Ac) (ep b : Nat) : Prop := ∀ j y, ep ≤ j → j < b → L[j]? = some y → hitB x y = false
theorem hit_snoc {L : List Ac} {x : Ac} {ep b : Nat} {y : Ac} (h : noHit L x ep b) (hb : L[b]? = some y) (hy : hitB x y = false) : noHit L x ep (b + 1) := by
 intro j z h1 h2 hj
 by_cases e : j = b
 ·subst e
  rw [hb] at hj
  cases hj
  exact hy
 ·exact h j z h1 (by omega) hj
theorem noHit_clear {L : List Ac} {x : Ac} {ep a : Nat} (h : noHit L x ep a) : (beg x && (drawsIn L ep a).contains x.X.draw) = false := by
 cases hb : beg x with
 | false => rfl
 | true =>
  rw [Bool.true_and, Bool.eq_false_iff]
  intro hc
  have hm := List.contains_iff_mem.1 hc
  unfold drawsIn at hm
  obtain ⟨y, hy, he⟩ := List.mem_map.1 hm
  obtain ⟨hy1, hy2⟩ := List.mem_filter.1 hy
  obtain ⟨j, hj⟩ := List.getElem?_of_mem hy1
  rw [List.getElem?_drop] at hj
  have hlt : ep + j < a := by
   have := (List.getElem?_eq_some_iff.1 hj).1
   rw [List.length_take] at this
   omega
  rw [List.getElem?_take_of_lt hlt] at hj
  have := h (ep + j) y (by omega) hlt hj
  rw [hitB, hb, hy2, he] at this
  simp at this
theorem clear_next {L : List Ac} {ep a : Nat} {x : Ac} (ha : L[a]? = some x) (he : ep ≤ a) (h : clearB [] L = clearB (drawsIn L ep a) (L.drop a)) (hk : x.kind ≠ 3) (hn : noHit L x ep a) : clearB [] L = clearB (drawsIn L ep (a + 1)) (L.drop (a + 1)) := by
 obtain ⟨hl, e⟩ := List.getElem?_eq_some_iff.1 ha
 rw [h, List.drop_eq_getElem_cons hl, e, clearB, noHit_clear hn, Bool.not_false, Bool.true_and, drawsIn_snoc ha he]
 unfold segs
 rw [if_neg hk]
theorem clear_boot {L : List Ac} {ep a : Nat} {x : Ac} (ha : L[a]? = some x) (he : ep ≤ a) (h : clearB [] L = clearB (drawsIn L ep a) (L.drop a)) (hk : x.kind = 3) : clearB [] L = clearB (drawsIn L a (a + 1)) (L.drop (a + 1)) := by
 obtain ⟨hl, e⟩ := List.getElem?_eq_some_iff.1 ha
 have hb : beg x = false := by simp [beg, hk]
 rw [h, List.drop_eq_getElem_cons hl, e, clearB, hb, Bool.false_and, Bool.not_false, Bool.true_and, drawsIn_snoc ha (Nat.le_refl a), drawsIn_self, hb]
 unfold segs
 rw [if_pos hk]
 rfl
theorem start_small {U : List Usr} {idle : Int} (h : U.length ≤ 10 ∧ ∀ u ∈ U, u.key.length ≤ 100) : Small (startM U idle) 0 0 :=
 ⟨⟨Nat.lt_of_le_of_lt h.1 (by decide), fun u hu => Nat.lt_of_le_of_lt (h.2 u hu) (by decide)⟩, ⟨Nat.le_refl _, fun x hx => absurd hx (by simp [startM])⟩, ⟨Nat.le_refl _, fun x hx => absurd hx (by simp [startM])⟩, Nat.le_refl _⟩
theorem once_of {U : List Usr} {idle : Int} {L : List Ac} (hl : L.length ≤ 40) (h : clearB [] L = true) {i k : Nat} {x y : Don} (hx : (runF (startM U idle) L).D[i]? = some x) (hy : (runF (startM U idle) L).D[k]? = some y) (hne : i ≠ k) : apart x y :=
 pair_get (fun a b h => h.elim (fun h => .inl fun e => h e.symm) fun h => h.elim (fun h => .inr (.inl fun e => h e.symm)) fun h => .inr (.inr fun e => h e.symm)) (runF_apart L (startM U idle) [] 0 (by omega) (start_inv U idle) (by simp [startM]) h) hx hy hne
def dca (x : Don) : Array Value := #[.int .i64 x.user, .int .i64 x.epoch, .int .u64 x.draw, .int .u64 x.cn, .int .u64 x.count, .int .i64 x.cmd, .int .i64 x.arg]
theorem infoDo : (Tryz.prog.info? 48).map (·.size) = some 7 := by kernel_rfl
section
variable {ops : Array Oper} {rest : List Oper} {o : Oper} {a : Act} {w : World} {Q : Exit → Act → World → Prop}
theorem run_allocDo (w : World) : (Instr.alloc 48 true (.tuple #[])).run Tryz.prog w = .ok (.pointer (some ⟨w.heap.size, 0, none⟩)) (w.alloc (.cells (dca zdon) 48)) := by kernel_rfl
theorem alloc_Do (ho : o.op = .alloc 48) (hgd : o.guard = none) (h : ∀ g, g = w.heap.size → ∀ w1 : World, w1.heap[g]? = some (.cells (dca zdon) 48 (0, 0)) → Below w.heap.size w w1 → wpList Tryz.prog ops Q rest (a.put o.dst (.pointer (some ⟨g, 0, none⟩))) w1) : wpList Tryz.prog ops Q (o :: rest) a w := by
 refine Kd.event_run hgd (v := .pointer (some ⟨w.heap.size, 0, none⟩)) ?_ (h _ rfl (w.alloc (.cells (dca zdon) 48)) (blk_new w _) (below_alloc (Below.refl _ _) _))
 unfold execOp
 simp only [ho, Sem.run_bind, run_allocDo, Result.andThen_ok, Sem.run_pure]
theorem store_Do (x y : Operand) (ho : o.op = .store 48 x y) (hgd : o.guard = none) (hN : o.dst = none) {g : Nat} (s : Don) {old : Array Value} (hx : a.eval x = .pointer (some ⟨g, 0, none⟩)) (hy : a.eval y = .agg (dca s)) (hold : old.size = 7) (hg : w.heap[g]? = some (.cells old 48 (0, 0)))
  (h : ∀ w1 : World, w1.heap[g]? = some (.cells (dca s) 48 (0, 0)) → (∀ B, B ≤ g → Below B w w1) → wpList Tryz.prog ops Q rest a w1) : wpList Tryz.prog ops Q (o :: rest) a w := by
 refine wpList_store_row hgd 48 x y ho g (dca s) hx hy 48 old hg (by rw [infoDo]; rfl) (by rw [hold]; rfl) ?_ ?_
 ·simp [dca, Value.oneCell']
 ·rw [hN]
  refine h _ (setRow_heap _ _ _ _ _ _ hg) (fun B hB => ?_)
  have hb := Below.refl B w
  refine ⟨hb.os, hb.tape, hb.output, (by simpa only [size_setRow] using hb.size), fun k hk => ?_⟩
  rw [setRow_other _ _ _ _ (by omega)]
end
theorem run_start (U : List Usr) (idle : Int) (L : List Ac) (AU : Option Addr) (cU : Nat) (A : Option Addr) (c : Nat) (w : World) (hU : kU.C w AU U.length U) (hcU : U.length ≤ cU) (hf : U.length ≤ 10 ∧ ∀ u ∈ U, u.key.length ≤ 100) (hl : L.length ≤ 40) (hr : kA.C w A L.length L) (hw : ∀ a ∈ L, wfS a.X ∧ wfF a.F) :
  Calls Tryz.prog 9 #[.agg (mca (startM U idle) (.slice AU U.length cU) (.slice none 0 0) (.slice none 0 0) (.slice none 0 0)), .slice A L.length c] w fun e w' => ∃ vU' vT' vK' vD' vE, e = .returned (.tuple #[.agg (mca (runF (startM U idle) L) vU' vT' vK' vD'), vE]) ∧ MdC w' (runF (startM U idle) L) vU' vT' vK' vD' ∧ Below w.heap.size w w' :=
 run_any (startM U idle) L (.slice AU U.length cU) (.slice none 0 0) (.slice none 0 0) (.slice none 0 0) A c w 0 0 ⟨⟨AU, cU, rfl, hcU, hU⟩, told_nil, told_nil, told_nil⟩ (start_small hf) (by omega) hr hw
set_option maxHeartbeats 8000000 in
theorem once_walk (U : List Usr) (AU : Option Addr) (cU : Nat) (idle : Int) (L : List Ac) (A : Option Addr) (c : Nat) (i k : Int) (w : World) (hU : kU.C w AU U.length U) (hcU : U.length ≤ cU) (hr : kA.C w A L.length L) (hw : ∀ a ∈ L, wfS a.X ∧ wfF a.F) :
  Calls Tryz.prog 3 #[.slice AU U.length cU, .int .i64 idle, .slice A L.length c, .int .i64 i, .int .i64 k] w fun e w' => e = .returned (.bool true) ∧ Below w.heap.size w w' := by
 have CU := aq_ hU
 have LU := aq_ hcU
 have CA := aq_ hr
 have WF := aq_ hw
 have HB := aq_ (Below.refl w.heap.size w)
 have hml : L.length ≤ 9223372036854775807 := hr.2.1
 clear hU hcU hr hw
 go_enter Tryz.func3, Tryz.ntmps3
 go_upto_region 2 with ((go_at_call 6; (with_reducible refine (awake_any _).mono ?_)); rintro e w1 ⟨rfl, hb⟩; replace HB := aq_ (below_step HB.out hb); clear hb)
 go_upto_region 3 with ((go_at_call 7; (with_reducible refine (ufew_any U AU cU _ (Kd.C_below CU.out HB.out)).mono ?_)); rintro e w2 ⟨b1, rfl, hf, rfl⟩; have HF := aq_ hf; clear hf)
 go_upto_region 4 with ((go_at_call 8; (with_reducible refine (fewActs_any L A c _ (Kd.C_below CA.out HB.out)).mono ?_)); rintro e w3 ⟨b2, rfl, hf, hb⟩; have HL := aq_ hf; replace HB := aq_ (below_step HB.out hb); clear hf hb)
 cases b1
 ·go_wp2
  go_ret
  exact ⟨rfl, HB.out⟩
 cases b2
 ·go_wp2
  go_ret
  exact ⟨rfl, HB.out⟩
 have hL40 : L.length ≤ 40 := (HL.out rfl).1
 have FU := aq_ (HF.out rfl)
 clear HL HF
 go_wp2
 go_loopw [14, 15, 16] (fun v14 v15 v16 wr => ∃ a ep : Nat, a ≤ L.length ∧ ep ≤ a ∧ v15 = .int .i64 a ∧ v14 = .int .i64 ep ∧ Aside0 (clearB [] L = clearB (drawsIn L ep a) (L.drop a)) ∧ Aside0 (Below w.heap.size w wr)) (fun v14 v15 v16 _ => L.length - (intOf v15).toNat)
 case atStart => exact ⟨0, 0, by omega, by omega, rfl, rfl, ⟨rfl⟩, HB⟩
 case round =>
  clear HB
  obtain ⟨a, ep, ha, hep, rfl, rfl, HC, HB⟩ := hrel
  by_cases hlt : a < L.length
  ·have hd : decide ((a : Int) < L.length) = true := by simp; omega
   obtain ⟨xa, hxa⟩ : ∃ xa, L[a]? = some xa := ⟨_, List.getElem?_eq_getElem hlt⟩
   obtain ⟨ad, A2, c2, hA, hcs, _, _⟩ := at_A (Kd.C_below CA.out HB.out) a hlt xa hxa
   subst hA
   obtain ⟨a0, a1, a2⟩ := acts_at hcs
   clear hcs
   have fin : ∃ e : Nat, e ≤ a ∧ (noHit L xa e a → clearB [] L = clearB (drawsIn L e (a + 1)) (L.drop (a + 1))) ∧ ((xa.kind == 3) = false ∧ e = ep ∨ (xa.kind == 3) = true ∧ e = a) := by
    cases hk : (xa.kind == 3)
    ·exact ⟨ep, hep, fun h => clear_next hxa hep HC.out (by simpa using hk) h, .inl ⟨rfl, rfl⟩⟩
    ·exact ⟨a, Nat.le_refl _, fun _ => clear_boot hxa hep HC.out (by simpa using hk), .inr ⟨rfl, rfl⟩⟩
   obtain ⟨e, hea, hfin, hcase⟩ := fin
   have HFN := aq_ hfin
   clear hfin HC
   obtain ⟨hk, he⟩ | ⟨hk, he⟩ := hcase
   all_goals
    go_wp2
    go_loopw [16] (fun v16 wr => ∃ b : Nat, b ≤ a ∧ e ≤ b ∧ v16 = .int .i64 b ∧ Aside0 (noHit L xa e b) ∧ Aside0 (Below w.heap.size w wr)) (fun v16 _ => a - (intOf v16).toNat)
    case atStart => exact ⟨e, hea, Nat.le_refl _, by rw [he], ⟨fun j y h1 h2 => by omega⟩, HB⟩
    case round =>
     clear HB a0 a1 a2
     obtain ⟨b, hba, heb, rfl, NH, HB⟩ := hrel
     obtain ⟨ad', A2', c2', hA', hcs', _, _⟩ := at_A (Kd.C_below CA.out HB.out) a hlt xa hxa
     cases hA'
     obtain ⟨a0, a1, a2⟩ := acts_at hcs'
     clear hcs'
     by_cases hlb : b < a
     ·have hd2 : decide ((b : Int) < a) = true := by simp; omega
      obtain ⟨xb, hb⟩ : ∃ xb, L[b]? = some xb := ⟨_, List.getElem?_eq_getElem (by omega)⟩
      obtain ⟨ad', A3, c3, hA', hcs', _, _⟩ := at_A (Kd.C_below CA.out HB.out) b (by omega) xb hb
      cases hA'
      obtain ⟨b0, b1, b2⟩ := acts_at hcs'
      clear hcs'
      have hbl : b < L.length := by omega
      go_wp2
      refine start_ (n := 47) (S := fun w' => w'.cell? (ad.add (a * 83)) = some (.int .i64 xa.kind) ∧ w'.cell? (ad.add (b * 83)) = some (.int .i64 xb.kind) ∧ w'.cell? ⟨(ad.add (a * 83)).block, (ad.add (a * 83)).off + 1, none⟩ = some (.int .i64 xa.F.kind) ∧ w'.cell? ⟨(ad.add (b * 83)).block, (ad.add (b * 83)).off + 1, none⟩ = some (.int .i64 xb.F.kind) ∧ w'.cell? ⟨(ad.add (a * 83)).block, (ad.add (a * 83)).off + 43, none⟩ = some (.int .u64 xa.X.draw) ∧ w'.cell? ⟨(ad.add (b * 83)).block, (ad.add (b * 83)).off + 43, none⟩ = some (.int .u64 xb.X.draw)) (ds := []) #[false, false, false, false, false, false, false, false, false, false, false, false, false, false, false, false, false, false, false, false, false, false, false, false, false, false, false, false, false, false, false, false, false, false, false, false, false, false, false, false, false, false, false, false, false, false, false] (by kernel_rfl) rfl rfl ⟨a0, b0, a1, b1, a2, b2⟩ (fun hHeld => ?_)
      refine pu_ 0 (some 56) ?_ (bt_ 47 1) rfl rfl (Or.inl ⟨by rfl, ?_⟩) ?_ ?_ ?_;rotate_left;(intro w';go_simp;with_reducible rfl);rotate_left;(simp only [pt_];rfl)
      refine pu_ 1 (some 57) ?_ (bt_ 47 3) rfl rfl (Or.inl ⟨by rfl, ?_⟩) ?_ ?_ ?_;rotate_left;(intro w';go_simp;with_reducible rfl);rotate_left;(simp only [pt_];rfl)
      refine pu_ 2 (some 58) ?_ (bt_ 47 7) rfl rfl (Or.inl ⟨by rfl, ?_⟩) ?_ ?_ ?_;rotate_left;(intro w';go_simp;with_reducible rfl);rotate_left;(simp only [pt_];rfl)
      refine pu_ 3 (some 59) ?_ (bt_ 47 15) rfl rfl (Or.inl ⟨by rfl, ?_⟩) ?_ ?_ ?_;rotate_left;(intro w';go_simp;with_reducible rfl);rotate_left;(simp only [pt_];rfl)
      refine ta_ 4 (some 60) ?_ (bt_ 47 31) rfl rfl (Or.inl ⟨by rfl, ?_⟩) hHeld ?_ ?_ ?_;rotate_left;(rintro w' ⟨s0, s1, s2, s3, s4, s5⟩;go_simp;with_reducible rfl);rotate_left;(simp only [pt_];rfl)
      refine pu_ 5 (some 61) ?_ (bt_ 47 63) rfl rfl (Or.inl ⟨by rfl, ?_⟩) ?_ ?_ ?_;rotate_left;(intro w';go_simp;with_reducible rfl);rotate_left;(simp only [pt_];rfl)
      refine pu_ 6 (some 62) ?_ (bt_ 47 127) rfl rfl (Or.inl ⟨by rfl, ?_⟩) ?_ ?_ ?_;rotate_left;(intro w';go_simp;with_reducible rfl);rotate_left;(simp only [pt_];rfl)
      cases q0 : (xa.kind == 1)
      ·refine pu_ 7 (some 63) undef (bt_ 47 255) rfl rfl (Or.inr ⟨by rfl, rfl⟩) ?_ ?_ ?_;rotate_left;(simp only [pt_];rfl)
       refine pu_ 8 (some 64) undef (bt_ 47 511) rfl rfl (Or.inr ⟨by rfl, rfl⟩) ?_ ?_ ?_;rotate_left;(simp only [pt_];rfl)
       refine pu_ 9 (some 65) undef (bt_ 47 1023) rfl rfl (Or.inr ⟨by rfl, rfl⟩) ?_ ?_ ?_;rotate_left;(simp only [pt_];rfl)
       refine pu_ 10 (some 66) undef (bt_ 47 2047) rfl rfl (Or.inr ⟨by rfl, rfl⟩) ?_ ?_ ?_;rotate_left;(simp only [pt_];rfl)
       refine pu_ 11 (some 67) undef (bt_ 47 4095) rfl rfl (Or.inr ⟨by rfl, rfl⟩) ?_ ?_ ?_;rotate_left;(simp only [pt_];rfl)
       refine pu_ 12 (some 68) undef (bt_ 47 8191) rfl rfl (Or.inr ⟨by rfl, rfl⟩) ?_ ?_ ?_;rotate_left;(simp only [pt_];rfl)
       refine pu_ 13 (some 69) ?_ (bt_ 47 16383) rfl rfl (Or.inl ⟨by rfl, ?_⟩) ?_ ?_ ?_;rotate_left;(intro w';go_simp;with_reducible rfl);rotate_left;(simp only [pt_];rfl)
       refine pu_ 14 (some 70) ?_ (bt_ 47 32767) rfl rfl (Or.inl ⟨by rfl, ?_⟩) ?_ ?_ ?_;rotate_left;(intro w';go_simp;with_reducible rfl);rotate_left;(simp only [pt_];rfl)
       refine pu_ 15 (some 71) undef (bt_ 47 65535) rfl rfl (Or.inr ⟨by rfl, rfl⟩) ?_ ?_ ?_;rotate_left;(simp only [pt_];rfl)
       refine pu_ 16 (some 72) undef (bt_ 47 131071) rfl rfl (Or.inr ⟨by rfl, rfl⟩) ?_ ?_ ?_;rotate_left;(simp only [pt_];rfl)
       refine pu_ 17 (some 73) undef (bt_ 47 262143) rfl rfl (Or.inr ⟨by rfl, rfl⟩) ?_ ?_ ?_;rotate_left;(simp only [pt_];rfl)
       refine pu_ 18 (some 74) undef (bt_ 47 524287) rfl rfl (Or.inr ⟨by rfl, rfl⟩) ?_ ?_ ?_;rotate_left;(simp only [pt_];rfl)
       refine pu_ 19 (some 75) undef (bt_ 47 1048575) rfl rfl (Or.inr ⟨by rfl, rfl⟩) ?_ ?_ ?_;rotate_left;(simp only [pt_];rfl)
       refine pu_ 20 (some 76) undef (bt_ 47 2097151) rfl rfl (Or.inr ⟨by rfl, rfl⟩) ?_ ?_ ?_;rotate_left;(simp only [pt_];rfl)
       refine pu_ 21 (some 77) undef (bt_ 47 4194303) rfl rfl (Or.inr ⟨by rfl, rfl⟩) ?_ ?_ ?_;rotate_left;(simp only [pt_];rfl)
       refine pu_ 22 (some 78) ?_ (bt_ 47 8388607) rfl rfl (Or.inl ⟨by rfl, ?_⟩) ?_ ?_ ?_;rotate_left;(intro w';go_simp;with_reducible rfl);rotate_left;(simp only [pt_];rfl)
       refine pu_ 23 (some 79) ?_ (bt_ 47 16777215) rfl rfl (Or.inl ⟨by rfl, ?_⟩) ?_ ?_ ?_;rotate_left;(intro w';go_simp;with_reducible rfl);rotate_left;(simp only [pt_];rfl)
       refine pu_ 24 (some 80) undef (bt_ 47 33554431) rfl rfl (Or.inr ⟨by rfl, rfl⟩) ?_ ?_ ?_;rotate_left;(simp only [pt_];rfl)
       refine pu_ 25 (some 81) undef (bt_ 47 67108863) rfl rfl (Or.inr ⟨by rfl, rfl⟩) ?_ ?_ ?_;rotate_left;(simp only [pt_];rfl)
       refine pu_ 26 (some 82) undef (bt_ 47 134217727) rfl rfl (Or.inr ⟨by rfl, rfl⟩) ?_ ?_ ?_;rotate_left;(simp only [pt_];rfl)
       refine pu_ 27 (some 83) undef (bt_ 47 268435455) rfl rfl (Or.inr ⟨by rfl, rfl⟩) ?_ ?_ ?_;rotate_left;(simp only [pt_];rfl)
       refine pu_ 28 (some 84) undef (bt_ 47 536870911) rfl rfl (Or.inr ⟨by rfl, rfl⟩) ?_ ?_ ?_;rotate_left;(simp only [pt_];rfl)
       refine pu_ 29 (some 85) undef (bt_ 47 1073741823) rfl rfl (Or.inr ⟨by rfl, rfl⟩) ?_ ?_ ?_;rotate_left;(simp only [pt_];rfl)
       refine pu_ 30 (some 86) undef (bt_ 47 2147483647) rfl rfl (Or.inr ⟨by rfl, rfl⟩) ?_ ?_ ?_;rotate_left;(simp only [pt_];rfl)
       refine pu_ 31 (some 87) ?_ (bt_ 47 4294967295) rfl rfl (Or.inl ⟨by rfl, ?_⟩) ?_ ?_ ?_;rotate_left;(intro w';go_simp;with_reducible rfl);rotate_left;(simp only [pt_];rfl)
       refine pu_ 32 (some 88) ?_ (bt_ 47 8589934591) rfl rfl (Or.inl ⟨by rfl, ?_⟩) ?_ ?_ ?_;rotate_left;(intro w';go_simp;with_reducible rfl);rotate_left;(simp only [pt_];rfl)
       refine pu_ 33 (some 89) undef (bt_ 47 17179869183) rfl rfl (Or.inr ⟨by rfl, rfl⟩) ?_ ?_ ?_;rotate_left;(simp only [pt_];rfl)
       refine pu_ 34 (some 90) undef (bt_ 47 34359738367) rfl rfl (Or.inr ⟨by rfl, rfl⟩) ?_ ?_ ?_;rotate_left;(simp only [pt_];rfl)
       refine pu_ 35 (some 91) undef (bt_ 47 68719476735) rfl rfl (Or.inr ⟨by rfl, rfl⟩) ?_ ?_ ?_;rotate_left;(simp only [pt_];rfl)
       refine pu_ 36 (some 92) undef (bt_ 47 137438953471) rfl rfl (Or.inr ⟨by rfl, rfl⟩) ?_ ?_ ?_;rotate_left;(simp only [pt_];rfl)
       refine pu_ 37 (some 93) undef (bt_ 47 274877906943) rfl rfl (Or.inr ⟨by rfl, rfl⟩) ?_ ?_ ?_;rotate_left;(simp only [pt_];rfl)
       refine pu_ 38 (some 94) undef (bt_ 47 549755813887) rfl rfl (Or.inr ⟨by rfl, rfl⟩) ?_ ?_ ?_;rotate_left;(simp only [pt_];rfl)
       refine pu_ 39 (some 95) undef (bt_ 47 1099511627775) rfl rfl (Or.inr ⟨by rfl, rfl⟩) ?_ ?_ ?_;rotate_left;(simp only [pt_];rfl)
       refine pu_ 40 (some 96) undef (bt_ 47 2199023255551) rfl rfl (Or.inr ⟨by rfl, rfl⟩) ?_ ?_ ?_;rotate_left;(simp only [pt_];rfl)
       refine pu_ 41 (some 97) undef (bt_ 47 4398046511103) rfl rfl (Or.inr ⟨by rfl, rfl⟩) ?_ ?_ ?_;rotate_left;(simp only [pt_];rfl)
       refine pu_ 42 (some 98) undef (bt_ 47 8796093022207) rfl rfl (Or.inr ⟨by rfl, rfl⟩) ?_ ?_ ?_;rotate_left;(simp only [pt_];rfl)
       refine pu_ 43 (some 99) undef (bt_ 47 17592186044415) rfl rfl (Or.inr ⟨by rfl, rfl⟩) ?_ ?_ ?_;rotate_left;(simp only [pt_];rfl)
       refine pu_ 44 (some 100) undef (bt_ 47 35184372088831) rfl rfl (Or.inr ⟨by rfl, rfl⟩) ?_ ?_ ?_;rotate_left;(simp only [pt_];rfl)
       refine pu_ 45 (some 101) undef (bt_ 47 70368744177663) rfl rfl (Or.inr ⟨by rfl, rfl⟩) ?_ ?_ ?_;rotate_left;(simp only [pt_];rfl)
       refine pu_ 46 (some 102) ?_ (bt_ 47 140737488355327) rfl rfl (Or.inl ⟨by rfl, ?_⟩) ?_ ?_ ?_;rotate_left;(intro w';go_simp;with_reducible rfl);rotate_left;(simp only [pt_];rfl)
       refine done_ (by kernel_rfl) ?_
       go_wp2
       go_roundw
       case rel => exact ⟨b + 1, by omega, by omega, by go_num, ⟨hit_snoc NH.out hb (by simp [hitB, beg, q0])⟩, ⟨below_drew HB.out⟩⟩
       case measure => simp [intOf]; omega
      refine pu_ 7 (some 63) ?_ (bt_ 47 255) rfl rfl (Or.inl ⟨by rfl, ?_⟩) ?_ ?_ ?_;rotate_left;(intro w';go_simp;with_reducible rfl);rotate_left;(simp only [pt_];rfl)
      refine pu_ 8 (some 64) ?_ (bt_ 47 511) rfl rfl (Or.inl ⟨by rfl, ?_⟩) ?_ ?_ ?_;rotate_left;(intro w';go_simp;with_reducible rfl);rotate_left;(simp only [pt_];rfl)
      refine pu_ 9 (some 65) ?_ (bt_ 47 1023) rfl rfl (Or.inl ⟨by rfl, ?_⟩) ?_ ?_ ?_;rotate_left;(intro w';go_simp;with_reducible rfl);rotate_left;(simp only [pt_];rfl)
      refine pu_ 10 (some 66) ?_ (bt_ 47 2047) rfl rfl (Or.inl ⟨by rfl, ?_⟩) ?_ ?_ ?_;rotate_left;(intro w';go_simp;with_reducible rfl);rotate_left;(simp only [pt_];rfl)
      refine ta_ 11 (some 67) ?_ (bt_ 47 4095) rfl rfl (Or.inl ⟨by rfl, ?_⟩) hHeld ?_ ?_ ?_;rotate_left;(rintro w' ⟨s0, s1, s2, s3, s4, s5⟩;go_simp;with_reducible rfl);rotate_left;(simp only [pt_];rfl)
      refine pu_ 12 (some 68) ?_ (bt_ 47 8191) rfl rfl (Or.inl ⟨by rfl, ?_⟩) ?_ ?_ ?_;rotate_left;(intro w';go_simp;with_reducible rfl);rotate_left;(simp only [pt_];rfl)
      refine pu_ 13 (some 69) ?_ (bt_ 47 16383) rfl rfl (Or.inl ⟨by rfl, ?_⟩) ?_ ?_ ?_;rotate_left;(intro w';go_simp;with_reducible rfl);rotate_left;(simp only [pt_];rfl)
      refine pu_ 14 (some 70) ?_ (bt_ 47 32767) rfl rfl (Or.inl ⟨by rfl, ?_⟩) ?_ ?_ ?_;rotate_left;(intro w';go_simp;with_reducible rfl);rotate_left;(simp only [pt_];rfl)
      cases q1 : (xb.kind == 1)
      ·refine pu_ 15 (some 71) undef (bt_ 47 65535) rfl rfl (Or.inr ⟨by rfl, rfl⟩) ?_ ?_ ?_;rotate_left;(simp only [pt_];rfl)
       refine pu_ 16 (some 72) undef (bt_ 47 131071) rfl rfl (Or.inr ⟨by rfl, rfl⟩) ?_ ?_ ?_;rotate_left;(simp only [pt_];rfl)
       refine pu_ 17 (some 73) undef (bt_ 47 262143) rfl rfl (Or.inr ⟨by rfl, rfl⟩) ?_ ?_ ?_;rotate_left;(simp only [pt_];rfl)
       refine pu_ 18 (some 74) undef (bt_ 47 524287) rfl rfl (Or.inr ⟨by rfl, rfl⟩) ?_ ?_ ?_;rotate_left;(simp only [pt_];rfl)
       refine pu_ 19 (some 75) undef (bt_ 47 1048575) rfl rfl (Or.inr ⟨by rfl, rfl⟩) ?_ ?_ ?_;rotate_left;(simp only [pt_];rfl)
       refine pu_ 20 (some 76) undef (bt_ 47 2097151) rfl rfl (Or.inr ⟨by rfl, rfl⟩) ?_ ?_ ?_;rotate_left;(simp only [pt_];rfl)
       refine pu_ 21 (some 77) undef (bt_ 47 4194303) rfl rfl (Or.inr ⟨by rfl, rfl⟩) ?_ ?_ ?_;rotate_left;(simp only [pt_];rfl)
       refine pu_ 22 (some 78) ?_ (bt_ 47 8388607) rfl rfl (Or.inl ⟨by rfl, ?_⟩) ?_ ?_ ?_;rotate_left;(intro w';go_simp;with_reducible rfl);rotate_left;(simp only [pt_];rfl)
       refine pu_ 23 (some 79) ?_ (bt_ 47 16777215) rfl rfl (Or.inl ⟨by rfl, ?_⟩) ?_ ?_ ?_;rotate_left;(intro w';go_simp;with_reducible rfl);rotate_left;(simp only [pt_];rfl)
       refine pu_ 24 (some 80) undef (bt_ 47 33554431) rfl rfl (Or.inr ⟨by rfl, rfl⟩) ?_ ?_ ?_;rotate_left;(simp only [pt_];rfl)
       refine pu_ 25 (some 81) undef (bt_ 47 67108863) rfl rfl (Or.inr ⟨by rfl, rfl⟩) ?_ ?_ ?_;rotate_left;(simp only [pt_];rfl)
       refine pu_ 26 (some 82) undef (bt_ 47 134217727) rfl rfl (Or.inr ⟨by rfl, rfl⟩) ?_ ?_ ?_;rotate_left;(simp only [pt_];rfl)
       refine pu_ 27 (some 83) undef (bt_ 47 268435455) rfl rfl (Or.inr ⟨by rfl, rfl⟩) ?_ ?_ ?_;rotate_left;(simp only [pt_];rfl)
       refine pu_ 28 (some 84) undef (bt_ 47 536870911) rfl rfl (Or.inr ⟨by rfl, rfl⟩) ?_ ?_ ?_;rotate_left;(simp only [pt_];rfl)
       refine pu_ 29 (some 85) undef (bt_ 47 1073741823) rfl rfl (Or.inr ⟨by rfl, rfl⟩) ?_ ?_ ?_;rotate_left;(simp only [pt_];rfl)
       refine pu_ 30 (some 86) undef (bt_ 47 2147483647) rfl rfl (Or.inr ⟨by rfl, rfl⟩) ?_ ?_ ?_;rotate_left;(simp only [pt_];rfl)
       refine pu_ 31 (some 87) ?_ (bt_ 47 4294967295) rfl rfl (Or.inl ⟨by rfl, ?_⟩) ?_ ?_ ?_;rotate_left;(intro w';go_simp;with_reducible rfl);rotate_left;(simp only [pt_];rfl)
       refine pu_ 32 (some 88) ?_ (bt_ 47 8589934591) rfl rfl (Or.inl ⟨by rfl, ?_⟩) ?_ ?_ ?_;rotate_left;(intro w';go_simp;with_reducible rfl);rotate_left;(simp only [pt_];rfl)
       refine pu_ 33 (some 89) undef (bt_ 47 17179869183) rfl rfl (Or.inr ⟨by rfl, rfl⟩) ?_ ?_ ?_;rotate_left;(simp only [pt_];rfl)
       refine pu_ 34 (some 90) undef (bt_ 47 34359738367) rfl rfl (Or.inr ⟨by rfl, rfl⟩) ?_ ?_ ?_;rotate_left;(simp only [pt_];rfl)
       refine pu_ 35 (some 91) undef (bt_ 47 68719476735) rfl rfl (Or.inr ⟨by rfl, rfl⟩) ?_ ?_ ?_;rotate_left;(simp only [pt_];rfl)
       refine pu_ 36 (some 92) undef (bt_ 47 137438953471) rfl rfl (Or.inr ⟨by rfl, rfl⟩) ?_ ?_ ?_;rotate_left;(simp only [pt_];rfl)
       refine pu_ 37 (some 93) undef (bt_ 47 274877906943) rfl rfl (Or.inr ⟨by rfl, rfl⟩) ?_ ?_ ?_;rotate_left;(simp only [pt_];rfl)
       refine pu_ 38 (some 94) undef (bt_ 47 549755813887) rfl rfl (Or.inr ⟨by rfl, rfl⟩) ?_ ?_ ?_;rotate_left;(simp only [pt_];rfl)
       refine pu_ 39 (some 95) undef (bt_ 47 1099511627775) rfl rfl (Or.inr ⟨by rfl, rfl⟩) ?_ ?_ ?_;rotate_left;(simp only [pt_];rfl)
       refine pu_ 40 (some 96) undef (bt_ 47 2199023255551) rfl rfl (Or.inr ⟨by rfl, rfl⟩) ?_ ?_ ?_;rotate_left;(simp only [pt_];rfl)
       refine pu_ 41 (some 97) undef (bt_ 47 4398046511103) rfl rfl (Or.inr ⟨by rfl, rfl⟩) ?_ ?_ ?_;rotate_left;(simp only [pt_];rfl)
       refine pu_ 42 (some 98) undef (bt_ 47 8796093022207) rfl rfl (Or.inr ⟨by rfl, rfl⟩) ?_ ?_ ?_;rotate_left;(simp only [pt_];rfl)
       refine pu_ 43 (some 99) undef (bt_ 47 17592186044415) rfl rfl (Or.inr ⟨by rfl, rfl⟩) ?_ ?_ ?_;rotate_left;(simp only [pt_];rfl)
       refine pu_ 44 (some 100) undef (bt_ 47 35184372088831) rfl rfl (Or.inr ⟨by rfl, rfl⟩) ?_ ?_ ?_;rotate_left;(simp only [pt_];rfl)
       refine pu_ 45 (some 101) undef (bt_ 47 70368744177663) rfl rfl (Or.inr ⟨by rfl, rfl⟩) ?_ ?_ ?_;rotate_left;(simp only [pt_];rfl)
       refine pu_ 46 (some 102) ?_ (bt_ 47 140737488355327) rfl rfl (Or.inl ⟨by rfl, ?_⟩) ?_ ?_ ?_;rotate_left;(intro w';go_simp;with_reducible rfl);rotate_left;(simp only [pt_];rfl)
       refine done_ (by kernel_rfl) ?_
       go_wp2
       go_roundw
       case rel => exact ⟨b + 1, by omega, by omega, by go_num, ⟨hit_snoc NH.out hb (by simp [hitB, beg, q0, q1])⟩, ⟨below_drew HB.out⟩⟩
       case measure => simp [intOf]; omega
      refine pu_ 15 (some 71) ?_ (bt_ 47 65535) rfl rfl (Or.inl ⟨by rfl, ?_⟩) ?_ ?_ ?_;rotate_left;(intro w';go_simp;with_reducible rfl);rotate_left;(simp only [pt_];rfl)
      refine pu_ 16 (some 72) ?_ (bt_ 47 131071) rfl rfl (Or.inl ⟨by rfl, ?_⟩) ?_ ?_ ?_;rotate_left;(intro w';go_simp;with_reducible rfl);rotate_left;(simp only [pt_];rfl)
      refine pu_ 17 (some 73) ?_ (bt_ 47 262143) rfl rfl (Or.inl ⟨by rfl, ?_⟩) ?_ ?_ ?_;rotate_left;(intro w';go_simp;with_reducible rfl);rotate_left;(simp only [pt_];rfl)
      refine pu_ 18 (some 74) ?_ (bt_ 47 524287) rfl rfl (Or.inl ⟨by rfl, ?_⟩) ?_ ?_ ?_;rotate_left;(intro w';go_simp;with_reducible rfl);rotate_left;(simp only [pt_];rfl)
      refine pu_ 19 (some 75) ?_ (bt_ 47 1048575) rfl rfl (Or.inl ⟨by rfl, ?_⟩) ?_ ?_ ?_;rotate_left;(intro w';go_simp;with_reducible rfl);rotate_left;(simp only [pt_];rfl)
      refine ta_ 20 (some 76) ?_ (bt_ 47 2097151) rfl rfl (Or.inl ⟨by rfl, ?_⟩) hHeld ?_ ?_ ?_;rotate_left;(rintro w' ⟨s0, s1, s2, s3, s4, s5⟩;go_simp;with_reducible rfl);rotate_left;(simp only [pt_];rfl)
      refine pu_ 21 (some 77) ?_ (bt_ 47 4194303) rfl rfl (Or.inl ⟨by rfl, ?_⟩) ?_ ?_ ?_;rotate_left;(intro w';go_simp;with_reducible rfl);rotate_left;(simp only [pt_];rfl)
      refine pu_ 22 (some 78) ?_ (bt_ 47 8388607) rfl rfl (Or.inl ⟨by rfl, ?_⟩) ?_ ?_ ?_;rotate_left;(intro w';go_simp;with_reducible rfl);rotate_left;(simp only [pt_];rfl)
      refine pu_ 23 (some 79) ?_ (bt_ 47 16777215) rfl rfl (Or.inl ⟨by rfl, ?_⟩) ?_ ?_ ?_;rotate_left;(intro w';go_simp;with_reducible rfl);rotate_left;(simp only [pt_];rfl)
      cases q2 : (xa.F.kind == 0)
      ·refine pu_ 24 (some 80) undef (bt_ 47 33554431) rfl rfl (Or.inr ⟨by rfl, rfl⟩) ?_ ?_ ?_;rotate_left;(simp only [pt_];rfl)
       refine pu_ 25 (some 81) undef (bt_ 47 67108863) rfl rfl (Or.inr ⟨by rfl, rfl⟩) ?_ ?_ ?_;rotate_left;(simp only [pt_];rfl)
       refine pu_ 26 (some 82) undef (bt_ 47 134217727) rfl rfl (Or.inr ⟨by rfl, rfl⟩) ?_ ?_ ?_;rotate_left;(simp only [pt_];rfl)
       refine pu_ 27 (some 83) undef (bt_ 47 268435455) rfl rfl (Or.inr ⟨by rfl, rfl⟩) ?_ ?_ ?_;rotate_left;(simp only [pt_];rfl)
       refine pu_ 28 (some 84) undef (bt_ 47 536870911) rfl rfl (Or.inr ⟨by rfl, rfl⟩) ?_ ?_ ?_;rotate_left;(simp only [pt_];rfl)
       refine pu_ 29 (some 85) undef (bt_ 47 1073741823) rfl rfl (Or.inr ⟨by rfl, rfl⟩) ?_ ?_ ?_;rotate_left;(simp only [pt_];rfl)
       refine pu_ 30 (some 86) undef (bt_ 47 2147483647) rfl rfl (Or.inr ⟨by rfl, rfl⟩) ?_ ?_ ?_;rotate_left;(simp only [pt_];rfl)
       refine pu_ 31 (some 87) ?_ (bt_ 47 4294967295) rfl rfl (Or.inl ⟨by rfl, ?_⟩) ?_ ?_ ?_;rotate_left;(intro w';go_simp;with_reducible rfl);rotate_left;(simp only [pt_];rfl)
       refine pu_ 32 (some 88) ?_ (bt_ 47 8589934591) rfl rfl (Or.inl ⟨by rfl, ?_⟩) ?_ ?_ ?_;rotate_left;(intro w';go_simp;with_reducible rfl);rotate_left;(simp only [pt_];rfl)
       refine pu_ 33 (some 89) undef (bt_ 47 17179869183) rfl rfl (Or.inr ⟨by rfl, rfl⟩) ?_ ?_ ?_;rotate_left;(simp only [pt_];rfl)
       refine pu_ 34 (some 90) undef (bt_ 47 34359738367) rfl rfl (Or.inr ⟨by rfl, rfl⟩) ?_ ?_ ?_;rotate_left;(simp only [pt_];rfl)
       refine pu_ 35 (some 91) undef (bt_ 47 68719476735) rfl rfl (Or.inr ⟨by rfl, rfl⟩) ?_ ?_ ?_;rotate_left;(simp only [pt_];rfl)
       refine pu_ 36 (some 92) undef (bt_ 47 137438953471) rfl rfl (Or.inr ⟨by rfl, rfl⟩) ?_ ?_ ?_;rotate_left;(simp only [pt_];rfl)
       refine pu_ 37 (some 93) undef (bt_ 47 274877906943) rfl rfl (Or.inr ⟨by rfl, rfl⟩) ?_ ?_ ?_;rotate_left;(simp only [pt_];rfl)
       refine pu_ 38 (some 94) undef (bt_ 47 549755813887) rfl rfl (Or.inr ⟨by rfl, rfl⟩) ?_ ?_ ?_;rotate_left;(simp only [pt_];rfl)
       refine pu_ 39 (some 95) undef (bt_ 47 1099511627775) rfl rfl (Or.inr ⟨by rfl, rfl⟩) ?_ ?_ ?_;rotate_left;(simp only [pt_];rfl)
       refine pu_ 40 (some 96) undef (bt_ 47 2199023255551) rfl rfl (Or.inr ⟨by rfl, rfl⟩) ?_ ?_ ?_;rotate_left;(simp only [pt_];rfl)
       refine pu_ 41 (some 97) undef (bt_ 47 4398046511103) rfl rfl (Or.inr ⟨by rfl, rfl⟩) ?_ ?_ ?_;rotate_left;(simp only [pt_];rfl)
       refine pu_ 42 (some 98) undef (bt_ 47 8796093022207) rfl rfl (Or.inr ⟨by rfl, rfl⟩) ?_ ?_ ?_;rotate_left;(simp only [pt_];rfl)
       refine pu_ 43 (some 99) undef (bt_ 47 17592186044415) rfl rfl (Or.inr ⟨by rfl, rfl⟩) ?_ ?_ ?_;rotate_left;(simp only [pt_];rfl)
       refine pu_ 44 (some 100) undef (bt_ 47 35184372088831) rfl rfl (Or.inr ⟨by rfl, rfl⟩) ?_ ?_ ?_;rotate_left;(simp only [pt_];rfl)
       refine pu_ 45 (some 101) undef (bt_ 47 70368744177663) rfl rfl (Or.inr ⟨by rfl, rfl⟩) ?_ ?_ ?_;rotate_left;(simp only [pt_];rfl)
       refine pu_ 46 (some 102) ?_ (bt_ 47 140737488355327) rfl rfl (Or.inl ⟨by rfl, ?_⟩) ?_ ?_ ?_;rotate_left;(intro w';go_simp;with_reducible rfl);rotate_left;(simp only [pt_];rfl)
       refine done_ (by kernel_rfl) ?_
       go_wp2
       go_roundw
       case rel => exact ⟨b + 1, by omega, by omega, by go_num, ⟨hit_snoc NH.out hb (by simp [hitB, beg, q0, q1, q2])⟩, ⟨below_drew HB.out⟩⟩
       case measure => simp [intOf]; omega
      refine pu_ 24 (some 80) ?_ (bt_ 47 33554431) rfl rfl (Or.inl ⟨by rfl, ?_⟩) ?_ ?_ ?_;rotate_left;(intro w';go_simp;with_reducible rfl);rotate_left;(simp only [pt_];rfl)
      refine pu_ 25 (some 81) ?_ (bt_ 47 67108863) rfl rfl (Or.inl ⟨by rfl, ?_⟩) ?_ ?_ ?_;rotate_left;(intro w';go_simp;with_reducible rfl);rotate_left;(simp only [pt_];rfl)
      refine pu_ 26 (some 82) ?_ (bt_ 47 134217727) rfl rfl (Or.inl ⟨by rfl, ?_⟩) ?_ ?_ ?_;rotate_left;(intro w';go_simp;with_reducible rfl);rotate_left;(simp only [pt_];rfl)
      refine pu_ 27 (some 83) ?_ (bt_ 47 268435455) rfl rfl (Or.inl ⟨by rfl, ?_⟩) ?_ ?_ ?_;rotate_left;(intro w';go_simp;with_reducible rfl);rotate_left;(simp only [pt_];rfl)
      refine pu_ 28 (some 84) ?_ (bt_ 47 536870911) rfl rfl (Or.inl ⟨by rfl, ?_⟩) ?_ ?_ ?_;rotate_left;(intro w';go_simp;with_reducible rfl);rotate_left;(simp only [pt_];rfl)
      refine ta_ 29 (some 85) ?_ (bt_ 47 1073741823) rfl rfl (Or.inl ⟨by rfl, ?_⟩) hHeld ?_ ?_ ?_;rotate_left;(rintro w' ⟨s0, s1, s2, s3, s4, s5⟩;go_simp;with_reducible rfl);rotate_left;(simp only [pt_];rfl)
      refine pu_ 30 (some 86) ?_ (bt_ 47 2147483647) rfl rfl (Or.inl ⟨by rfl, ?_⟩) ?_ ?_ ?_;rotate_left;(intro w';go_simp;with_reducible rfl);rotate_left;(simp only [pt_];rfl)
      refine pu_ 31 (some 87) ?_ (bt_ 47 4294967295) rfl rfl (Or.inl ⟨by rfl, ?_⟩) ?_ ?_ ?_;rotate_left;(intro w';go_simp;with_reducible rfl);rotate_left;(simp only [pt_];rfl)
      refine pu_ 32 (some 88) ?_ (bt_ 47 8589934591) rfl rfl (Or.inl ⟨by rfl, ?_⟩) ?_ ?_ ?_;rotate_left;(intro w';go_simp;with_reducible rfl);rotate_left;(simp only [pt_];rfl)
      cases q3 : (xb.F.kind == 0)
      ·refine pu_ 33 (some 89) undef (bt_ 47 17179869183) rfl rfl (Or.inr ⟨by rfl, rfl⟩) ?_ ?_ ?_;rotate_left;(simp only [pt_];rfl)
       refine pu_ 34 (some 90) undef (bt_ 47 34359738367) rfl rfl (Or.inr ⟨by rfl, rfl⟩) ?_ ?_ ?_;rotate_left;(simp only [pt_];rfl)
       refine pu_ 35 (some 91) undef (bt_ 47 68719476735) rfl rfl (Or.inr ⟨by rfl, rfl⟩) ?_ ?_ ?_;rotate_left;(simp only [pt_];rfl)
       refine pu_ 36 (some 92) undef (bt_ 47 137438953471) rfl rfl (Or.inr ⟨by rfl, rfl⟩) ?_ ?_ ?_;rotate_left;(simp only [pt_];rfl)
       refine pu_ 37 (some 93) undef (bt_ 47 274877906943) rfl rfl (Or.inr ⟨by rfl, rfl⟩) ?_ ?_ ?_;rotate_left;(simp only [pt_];rfl)
       refine pu_ 38 (some 94) undef (bt_ 47 549755813887) rfl rfl (Or.inr ⟨by rfl, rfl⟩) ?_ ?_ ?_;rotate_left;(simp only [pt_];rfl)
       refine pu_ 39 (some 95) undef (bt_ 47 1099511627775) rfl rfl (Or.inr ⟨by rfl, rfl⟩) ?_ ?_ ?_;rotate_left;(simp only [pt_];rfl)
       refine pu_ 40 (some 96) undef (bt_ 47 2199023255551) rfl rfl (Or.inr ⟨by rfl, rfl⟩) ?_ ?_ ?_;rotate_left;(simp only [pt_];rfl)
       refine pu_ 41 (some 97) undef (bt_ 47 4398046511103) rfl rfl (Or.inr ⟨by rfl, rfl⟩) ?_ ?_ ?_;rotate_left;(simp only [pt_];rfl)
       refine pu_ 42 (some 98) undef (bt_ 47 8796093022207) rfl rfl (Or.inr ⟨by rfl, rfl⟩) ?_ ?_ ?_;rotate_left;(simp only [pt_];rfl)
       refine pu_ 43 (some 99) undef (bt_ 47 17592186044415) rfl rfl (Or.inr ⟨by rfl, rfl⟩) ?_ ?_ ?_;rotate_left;(simp only [pt_];rfl)
       refine pu_ 44 (some 100) undef (bt_ 47 35184372088831) rfl rfl (Or.inr ⟨by rfl, rfl⟩) ?_ ?_ ?_;rotate_left;(simp only [pt_];rfl)
       refine pu_ 45 (some 101) undef (bt_ 47 70368744177663) rfl rfl (Or.inr ⟨by rfl, rfl⟩) ?_ ?_ ?_;rotate_left;(simp only [pt_];rfl)
       refine pu_ 46 (some 102) ?_ (bt_ 47 140737488355327) rfl rfl (Or.inl ⟨by rfl, ?_⟩) ?_ ?_ ?_;rotate_left;(intro w';go_simp;with_reducible rfl);rotate_left;(simp only [pt_];rfl)
       refine done_ (by kernel_rfl) ?_
       go_wp2
       go_roundw
       case rel => exact ⟨b + 1, by omega, by omega, by go_num, ⟨hit_snoc NH.out hb (by simp [hitB, beg, q0, q1, q2, q3])⟩, ⟨below_drew HB.out⟩⟩
       case measure => simp [intOf]; omega
      refine pu_ 33 (some 89) ?_ (bt_ 47 17179869183) rfl rfl (Or.inl ⟨by rfl, ?_⟩) ?_ ?_ ?_;rotate_left;(intro w';go_simp;with_reducible rfl);rotate_left;(simp only [pt_];rfl)
      refine pu_ 34 (some 90) ?_ (bt_ 47 34359738367) rfl rfl (Or.inl ⟨by rfl, ?_⟩) ?_ ?_ ?_;rotate_left;(intro w';go_simp;with_reducible rfl);rotate_left;(simp only [pt_];rfl)
      refine pu_ 35 (some 91) ?_ (bt_ 47 68719476735) rfl rfl (Or.inl ⟨by rfl, ?_⟩) ?_ ?_ ?_;rotate_left;(intro w';go_simp;with_reducible rfl);rotate_left;(simp only [pt_];rfl)
      refine pu_ 36 (some 92) ?_ (bt_ 47 137438953471) rfl rfl (Or.inl ⟨by rfl, ?_⟩) ?_ ?_ ?_;rotate_left;(intro w';go_simp;with_reducible rfl);rotate_left;(simp only [pt_];rfl)
      refine pu_ 37 (some 93) ?_ (bt_ 47 274877906943) rfl rfl (Or.inl ⟨by rfl, ?_⟩) ?_ ?_ ?_;rotate_left;(intro w';go_simp;with_reducible rfl);rotate_left;(simp only [pt_];rfl)
      refine pu_ 39 (some 95) ?_ (bt_ 47 824633720831) rfl rfl (Or.inl ⟨by rfl, ?_⟩) ?_ ?_ ?_;rotate_left;(intro w';go_simp;with_reducible rfl);rotate_left;(simp only [pt_];rfl)
      refine pu_ 40 (some 96) ?_ (bt_ 47 1924145348607) rfl rfl (Or.inl ⟨by rfl, ?_⟩) ?_ ?_ ?_;rotate_left;(intro w';go_simp;with_reducible rfl);rotate_left;(simp only [pt_];rfl)
      refine pu_ 41 (some 97) ?_ (bt_ 47 4123168604159) rfl rfl (Or.inl ⟨by rfl, ?_⟩) ?_ ?_ ?_;rotate_left;(intro w';go_simp;with_reducible rfl);rotate_left;(simp only [pt_];rfl)
      refine pu_ 42 (some 98) ?_ (bt_ 47 8521215115263) rfl rfl (Or.inl ⟨by rfl, ?_⟩) ?_ ?_ ?_;rotate_left;(intro w';go_simp;with_reducible rfl);rotate_left;(simp only [pt_];rfl)
      refine pu_ 43 (some 99) ?_ (bt_ 47 17317308137471) rfl rfl (Or.inl ⟨by rfl, ?_⟩) ?_ ?_ ?_;rotate_left;(intro w';go_simp;with_reducible rfl);rotate_left;(simp only [pt_];rfl)
      refine ta_ 38 (some 94) ?_ (bt_ 47 17592186044415) rfl rfl (Or.inl ⟨by rfl, ?_⟩) hHeld ?_ ?_ ?_;rotate_left;(rintro w' ⟨s0, s1, s2, s3, s4, s5⟩;go_simp;with_reducible rfl);rotate_left;(simp only [pt_];rfl)
      refine ta_ 44 (some 100) ?_ (bt_ 47 35184372088831) rfl rfl (Or.inl ⟨by rfl, ?_⟩) hHeld ?_ ?_ ?_;rotate_left;(rintro w' ⟨s0, s1, s2, s3, s4, s5⟩;go_simp;with_reducible rfl);rotate_left;(simp only [pt_];rfl)
      refine pu_ 45 (some 101) ?_ (bt_ 47 70368744177663) rfl rfl (Or.inl ⟨by rfl, ?_⟩) ?_ ?_ ?_;rotate_left;(intro w';go_simp;with_reducible rfl);rotate_left;(simp only [pt_];rfl)
      refine pu_ 46 (some 102) ?_ (bt_ 47 140737488355327) rfl rfl (Or.inl ⟨by rfl, ?_⟩) ?_ ?_ ?_;rotate_left;(intro w';go_simp;with_reducible rfl);rotate_left;(simp only [pt_];rfl)
      refine done_ (by kernel_rfl) ?_
      cases q4 : (xa.X.draw == xb.X.draw)
      ·go_wp2
       go_roundw
       case rel => exact ⟨b + 1, by omega, by omega, by go_num, ⟨hit_snoc NH.out hb (by simp [hitB, beg, q0, q1, q2, q3, q4])⟩, ⟨below_drew HB.out⟩⟩
       case measure => simp [intOf]; omega
      go_wp2
      go_ret
      exact ⟨rfl, below_drew HB.out⟩
     ·obtain rfl : b = a := by omega
      have hd2 : decide ((b : Int) < b) = false := by simp
      go_wp2
      go_roundw
      case rel => exact ⟨b + 1, e, by omega, by omega, by go_num, by rw [he], ⟨HFN.out NH.out⟩, HB⟩
      case measure => simp [intOf]; omega
  ·obtain rfl : a = L.length := by omega
   have hd : decide ((L.length : Int) < L.length) = false := by simp
   have HCL := aq_ (show clearB [] L = true by rw [HC.out, List.drop_length]; rfl)
   clear HC
   obtain ⟨R, hR⟩ : ∃ R, runF (startM U idle) L = R := ⟨_, rfl⟩
   have HR := aq_ hR
   clear hR
   go_upto_region 18 with (first
    | ((go_at_call 10; (with_reducible refine (start_nil U AU cU idle _).mono ?_)); rintro e w4 ⟨rfl, hb⟩; replace HB := aq_ (below_step HB.out hb); clear hb)
    | ((go_at_call 9; (with_reducible refine (run_start U idle L AU cU A c _ (Kd.C_below CU.out HB.out) LU.out FU.out hL40 (Kd.C_below CA.out HB.out) WF.out).mono ?_)); rintro e w5 ⟨vU', vT', vK', vD', vE, rfl, hM, hb⟩; rw [HR.out] at hM; rw [HR.out]; obtain ⟨⟨U1, cU1, rfl⟩, ⟨T1, cT1, rfl⟩, ⟨K1, cK1, rfl⟩, ⟨D1, cD1, rfl⟩⟩ := mdC_slices hM; have MC := aq_ hM.2.2.2; replace HB := aq_ (below_step HB.out hb); clear hb hM)
    | ((with_reducible refine alloc_Mo rfl rfl ?_); intro gm hgt w8 hbox hb; have ALB := aq_ hb; have ALG := aq_ hgt; have TB := aq_ hbox; clear hgt hbox hb)
    | ((with_reducible refine store_Mo (.tmp 17) (.tmp 109) rfl rfl rfl rfl rfl rfl rfl rfl rfl rfl TB.out ?_); intro w9 hx1 hs1 hb1 hf1; have hbt := hb1 _ _ (Nat.le_of_eq ALG.out.symm) ALB.out; replace HB := aq_ (below_step HB.out hbt); replace MC := aq_ (told_belowG MC.out hbt); have XM := aq_ hx1; clear hx1 hs1 hb1 hf1 hbt ALB ALG TB))
   have c6 : w9.cell? ⟨gm, 6, none⟩ = some (.slice D1 R.D.length cD1) := blk_cell XM.out 6
   cases q1 : decide (i < 0)
   case true =>
    go_wp2
    go_ret
    exact ⟨rfl, HB.out⟩
   cases q2 : decide (k < 0)
   case true =>
    go_wp2
    go_ret
    exact ⟨rfl, HB.out⟩
   cases q3 : decide ((R.D.length : Int) ≤ i)
   case true =>
    go_wp2
    go_ret
    exact ⟨rfl, HB.out⟩
   cases q4 : decide ((R.D.length : Int) ≤ k)
   case true =>
    go_wp2
    go_ret
    exact ⟨rfl, HB.out⟩
   cases q5 : (i == k)
   case true =>
    go_wp2
    go_ret
    exact ⟨rfl, HB.out⟩
   obtain ⟨n, rfl⟩ : ∃ n : Nat, i = n := ⟨i.toNat, by simp at q1; omega⟩
   obtain ⟨m, rfl⟩ : ∃ m : Nat, k = m := ⟨k.toNat, by simp at q2; omega⟩
   have hn : n < R.D.length := by simp at q3; omega
   have hm : m < R.D.length := by simp at q4; omega
   have hne : n ≠ m := fun e => by simp [e] at q5
   obtain ⟨x, hx⟩ : ∃ x, R.D[n]? = some x := ⟨_, List.getElem?_eq_getElem hn⟩
   obtain ⟨y, hy⟩ : ∃ y, R.D[m]? = some y := ⟨_, List.getElem?_eq_getElem hm⟩
   have hap : apart x y := once_of (U := U) (idle := idle) hL40 HCL.out (by rw [HR.out]; exact hx) (by rw [HR.out]; exact hy) hne
   obtain ⟨ae, hae, x0, x1, x2, x3, x4, x5, x6⟩ := at_D (told_C' MC.out).2.2 n hn x hx
   have hap' := aq_ hap
   have HY := aq_ hy
   clear hx hy hap
   subst hae
   go_upto_region 21 with (first
    | ((with_reducible refine alloc_Do rfl rfl ?_); intro g1 hgt w8 hbox hb; have ALB := aq_ hb; have ALG := aq_ hgt; have TB := aq_ hbox; clear hgt hbox hb)
    | ((with_reducible refine store_Do (.tmp 19) (.tmp 140) rfl rfl rfl x rfl rfl rfl TB.out ?_); intro w10 hx1 hb1; have hbt := ALB.out.trans (hb1 _ (Nat.le_of_eq ALG.out.symm)); replace HB := aq_ (below_step HB.out hbt); replace MC := aq_ (told_belowG MC.out hbt); replace XM := aq_ (blk_below XM.out hbt); have X1 := aq_ hx1; clear hx1 hb1 hbt ALB ALG TB))
   clear c6 x0 x1 x2 x3 x4 x5 x6
   obtain ⟨ae', hae', y0, y1, y2, y3, y4, y5, y6⟩ := at_D (told_C' MC.out).2.2 m hm y HY.out
   cases hae'
   have c6 : w10.cell? ⟨gm, 6, none⟩ = some (.slice (some ae) R.D.length cD1) := blk_cell XM.out 6
   go_upto_region 22 with (first
    | ((with_reducible refine alloc_Do rfl rfl ?_); intro g2 hgt w8 hbox hb; have ALB := aq_ hb; have ALG := aq_ hgt; have TB := aq_ hbox; clear hgt hbox hb)
    | ((with_reducible refine store_Do (.tmp 20) (.tmp 145) rfl rfl rfl y rfl rfl rfl TB.out ?_); intro w11 hx1 hb1; have hbt := ALB.out.trans (hb1 _ (Nat.le_of_eq ALG.out.symm)); replace HB := aq_ (below_step HB.out hbt); replace X1 := aq_ (blk_below X1.out hbt); have X2 := aq_ hx1; clear hx1 hb1 hbt ALB ALG TB))
   clear c6 y0 y1 y2 y3 y4 y5 y6
   have x1 : w11.cell? ⟨g1, 1, none⟩ = some (.int .i64 x.epoch) := blk_cell X1.out 1
   have x2 : w11.cell? ⟨g1, 2, none⟩ = some (.int .u64 x.draw) := blk_cell X1.out 2
   have x4 : w11.cell? ⟨g1, 4, none⟩ = some (.int .u64 x.count) := blk_cell X1.out 4
   have y1 : w11.cell? ⟨g2, 1, none⟩ = some (.int .i64 y.epoch) := blk_cell X2.out 1
   have y2 : w11.cell? ⟨g2, 2, none⟩ = some (.int .u64 y.draw) := blk_cell X2.out 2
   have y4 : w11.cell? ⟨g2, 4, none⟩ = some (.int .u64 y.count) := blk_cell X2.out 4
   cases e1 : (x.epoch != y.epoch)
   case true =>
    go_wp2
    go_ret
    exact ⟨rfl, HB.out⟩
   cases e2 : (x.draw != y.draw)
   case true =>
    go_wp2
    go_ret
    exact ⟨rfl, HB.out⟩
   have e3 : (x.count != y.count) = true := by
    rcases hap'.out with h | h | h
    ·simp at e1
     exact absurd e1 h
    ·simp at e2
     exact absurd e2 h
    ·simpa using h
   go_wp2
   go_ret
   exact ⟨rfl, HB.out⟩
end Go.Proofs.YtdinphnljokigaaGreat.P
end
