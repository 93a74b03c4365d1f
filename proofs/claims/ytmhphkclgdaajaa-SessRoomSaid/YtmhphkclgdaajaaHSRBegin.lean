/- pelicanref18.Begin. Printed by genrbeg.py. -/
import Derived.Test.YtmhphkclgdaajaaHSBegin
namespace Go.Proofs.Ytmhphkclgdaajaa.P
open Go.RowKit Go.Lib Go.Proofs.YtmhphkclgdaajaaW.PrintWords Go.Proofs.YtmhphkclgdaajaaW.PrintLast Go.Proofs.YtmhphkclgdaajaaW.PrintMore
set_option linter.unusedVariables false
set_option linter.unusedSimpArgs false
theorem box_size (w : World) (o : Obj) : (w.alloc o).heap.size = w.heap.size + 1 := Array.size_push _
theorem filt_yes {p : Ses → Bool} {l : List Ses} {i : Nat} {y : Ses} (hy : l[i]? = some y) (h : p y = true) : (l.take (i + 1)).filter p = (l.take i).filter p ++ [y] := by
  rw [List.take_add_one, hy, Option.toList_some, List.filter_append]
  simp [h]
theorem filt_no {p : Ses → Bool} {l : List Ses} {i : Nat} {y : Ses} (hy : l[i]? = some y) (h : p y = false) : (l.take (i + 1)).filter p = (l.take i).filter p := by
  rw [List.take_add_one, hy, Option.toList_some, List.filter_append]
  simp [h]
theorem filt_len (p : Ses → Bool) (l : List Ses) (i : Nat) : ((l.take i).filter p).length ≤ l.length := Nat.le_trans (List.length_filter_le _ _) (by rw [List.length_take]; omega)
set_option maxHeartbeats 4000000 in
set_option maxRecDepth 100000 in
theorem rbegin_arg (x : Ses) (idle now : Int) (l : List Ses) (A : Option Addr) (c : Nat) (w : World) (hr : kS.C w A l.length l) (hc : l.length ≤ c) (hl : l.length < 1000000) (m t b o : Bool) (h1 : mayS l = m) (h2 : timesB idle now = t) (h3 : mayB x = b) (h4 : x.isOpen = o) (h : m = false ∨ t = false ∨ b = false ∨ o = true) :
    Calls Try.prog 16 #[.slice A l.length c, .agg (sca x), .int .i64 idle, .int .i64 now] w fun e w' => ∃ v : Value, e = .returned (.tuple #[v, .int .i64 1]) ∧ ToldS w' v (l) ∧ Below w.heap.size w w' := by
  have HR := Aside0.mk hr
  have HC := Aside0.mk hc
  have HL := Aside0.mk hl
  have hlc := hl
  have X := Aside0.mk (blk_new w (.cells (sca x) 35))
  have HB := Aside0.mk (below_box w x)
  obtain ⟨x0, x1, x2, x3, x4, x5, x6⟩ := cellsS X.out
  clear hr hc hl
  rw [h4] at x4
  have HM := Aside0.mk h1
  have HT := Aside0.mk h2
  have HMX := Aside0.mk h3
  have HOP := Aside0.mk h4
  clear h1 h2 h3 h4 hlc
  revert h x4 HM HT HMX HOP
  cases m <;> cases t <;> cases b <;> cases o
  all_goals
    intro h x4 HM HT HMX HOP
    first
      | (exfalso; rcases h with h | h | h | h <;> cases h; done)
      | skip
  all_goals
    clear h
    go_enter Try.func16, Try.ntmps16
    go_wp2_with (first
      | (go_at_call 23; (with_reducible refine (rmayL_any l A c _ (Kd.C_below HR.out HB.out) HC.out).mono ?_); rintro e w1 ⟨he_, hb⟩; rw [HM.out] at he_; subst he_; clear x0 x1 x2 x3 x4 x5 x6; have X := Aside0.mk (blk_below X.out hb); have HB := Aside0.mk (below_step HB.out hb); obtain ⟨x0, x1, x2, x3, x4, x5, x6⟩ := cellsS X.out; rw [HOP.out] at x4; clear hb)
      | (go_at_call 37; (with_reducible refine (rtimes_any idle now _).mono ?_); rintro e w1 ⟨he_, rfl⟩; rw [HT.out] at he_; subst he_)
      | (with_reducible refine load_S (.tmp 5) rfl rfl (p := ⟨w.heap.size, 0, none⟩) rfl (cells_box X.out) ?_)
      | (go_at_call 38; (with_reducible refine (one_any x _).mono ?_); rintro e w1 ⟨he_, hb⟩; rw [HMX.out] at he_; subst he_; clear x0 x1 x2 x3 x4 x5 x6; have X := Aside0.mk (blk_below X.out hb); have HB := Aside0.mk (below_step HB.out hb); obtain ⟨x0, x1, x2, x3, x4, x5, x6⟩ := cellsS X.out; clear hb; rw [HOP.out] at x4))
    go_ret2
    exact ⟨_, rfl, told_C (Kd.C_below HR.out HB.out) HC.out, HB.out⟩
set_option maxHeartbeats 4000000 in
set_option maxRecDepth 100000 in
theorem rbegin_there (x : Ses) (idle now : Int) (l : List Ses) (A : Option Addr) (c : Nat) (w : World) (hr : kS.C w A l.length l) (hc : l.length ≤ c) (hl : l.length < 1000000) (h1 : mayS l = true) (h2 : timesB idle now = true) (h3 : mayB x = true) (h4 : x.isOpen = false) (hf : findS l x.draw ≠ -1) :
    Calls Try.prog 16 #[.slice A l.length c, .agg (sca x), .int .i64 idle, .int .i64 now] w fun e w' => ∃ v : Value, e = .returned (.tuple #[v, .int .i64 6]) ∧ ToldS w' v (l) ∧ Below w.heap.size w w' := by
  have HR := Aside0.mk hr
  have HC := Aside0.mk hc
  have HL := Aside0.mk hl
  have hlc := hl
  have X := Aside0.mk (blk_new w (.cells (sca x) 35))
  have HB := Aside0.mk (below_box w x)
  obtain ⟨x0, x1, x2, x3, x4, x5, x6⟩ := cellsS X.out
  clear hr hc hl
  rw [h4] at x4
  have HM := Aside0.mk h1
  have HT := Aside0.mk h2
  have HMX := Aside0.mk h3
  have HOP := Aside0.mk h4
  clear h1 h2 h3 h4
  have hge := findS_ge l x.draw
  obtain ⟨r, hr0⟩ : ∃ r, findS l x.draw = r := ⟨_, rfl⟩
  have HF := Aside0.mk hr0
  rw [hr0] at hf hge
  have hf2 : decide (0 ≤ r) = true := decide_eq_true (by omega)
  have hf3 : 0 ≤ r := by omega
  clear hr0 hf hge hlc
  go_enter Try.func16, Try.ntmps16
  go_wp2_with (first
    | (go_at_call 23; (with_reducible refine (rmayL_any l A c _ (Kd.C_below HR.out HB.out) HC.out).mono ?_); rintro e w1 ⟨he_, hb⟩; rw [HM.out] at he_; subst he_; clear x0 x1 x2 x3 x4 x5 x6; have X := Aside0.mk (blk_below X.out hb); have HB := Aside0.mk (below_step HB.out hb); obtain ⟨x0, x1, x2, x3, x4, x5, x6⟩ := cellsS X.out; rw [HOP.out] at x4; clear hb)
    | (go_at_call 37; (with_reducible refine (rtimes_any idle now _).mono ?_); rintro e w1 ⟨he_, rfl⟩; rw [HT.out] at he_; subst he_)
    | (with_reducible refine load_S (.tmp 5) rfl rfl (p := ⟨w.heap.size, 0, none⟩) rfl (cells_box X.out) ?_)
    | (go_at_call 38; (with_reducible refine (one_any x _).mono ?_); rintro e w1 ⟨he_, hb⟩; rw [HMX.out] at he_; subst he_; clear x0 x1 x2 x3 x4 x5 x6; have X := Aside0.mk (blk_below X.out hb); have HB := Aside0.mk (below_step HB.out hb); obtain ⟨x0, x1, x2, x3, x4, x5, x6⟩ := cellsS X.out; clear hb; rw [HOP.out] at x4)
    | (go_at_call 26; (with_reducible refine (rfind_any x.draw l A c _ (Kd.C_below HR.out HB.out)).mono ?_); rintro e w1 ⟨he_, rfl⟩; rw [HF.out] at he_; subst he_))
  go_ret2
  exact ⟨_, rfl, told_C (Kd.C_below HR.out HB.out) HC.out, HB.out⟩
set_option maxHeartbeats 4000000 in
set_option maxRecDepth 100000 in
theorem rbegin_all (x : Ses) (idle now : Int) (l : List Ses) (A : Option Addr) (c : Nat) (w : World) (hr : kS.C w A l.length l) (hc : l.length ≤ c) (hl : l.length < 1000000) (p : Ses → Bool) (hpp : p = fun y => decide (l.length < 4) || !lateB y idle now) (h1 : mayS l = true) (h2 : timesB idle now = true) (h3 : mayB x = true) (h4 : x.isOpen = false) (h5 : findS l x.draw = -1) (h6 : l.length < 4) (h7 : (l.filter p).length ≠ 4) :
    Calls Try.prog 16 #[.slice A l.length c, .agg (sca x), .int .i64 idle, .int .i64 now] w fun e w' => ∃ v : Value, e = .returned (.tuple #[v, .int .i64 0]) ∧ ToldS w' v (l.filter p ++ [{ x with last := now }]) ∧ Below w.heap.size w w' := by
  have HR := Aside0.mk hr
  have HC := Aside0.mk hc
  have HL := Aside0.mk hl
  have hlc := hl
  have X := Aside0.mk (blk_new w (.cells (sca x) 35))
  have HB := Aside0.mk (below_box w x)
  obtain ⟨x0, x1, x2, x3, x4, x5, x6⟩ := cellsS X.out
  clear hr hc hl
  rw [h4] at x4
  have HM := Aside0.mk h1
  have HT := Aside0.mk h2
  have HMX := Aside0.mk h3
  have HOP := Aside0.mk h4
  clear h1 h2 h3 h4
  have HF := Aside0.mk h5
  have HPP := Aside0.mk hpp
  clear h5 hpp
  have h6b : decide ((l.length : Int) < 4) = true := decide_eq_true (by omega)
  obtain ⟨q, hq⟩ : ∃ q, (l.filter p).length = q := ⟨_, rfl⟩
  have HQ := Aside0.mk hq
  rw [hq] at h7
  have h7b : ((q : Int) == 4) = false := by simpa using (show ¬ ((q : Int) = 4) by omega)
  clear hq h7
  go_enter Try.func16, Try.ntmps16
  go_wp2_with (first
    | (go_at_call 23; (with_reducible refine (rmayL_any l A c _ (Kd.C_below HR.out HB.out) HC.out).mono ?_); rintro e w1 ⟨he_, hb⟩; rw [HM.out] at he_; subst he_; clear x0 x1 x2 x3 x4 x5 x6; have X := Aside0.mk (blk_below X.out hb); have HB := Aside0.mk (below_step HB.out hb); obtain ⟨x0, x1, x2, x3, x4, x5, x6⟩ := cellsS X.out; rw [HOP.out] at x4; clear hb)
    | (go_at_call 37; (with_reducible refine (rtimes_any idle now _).mono ?_); rintro e w1 ⟨he_, rfl⟩; rw [HT.out] at he_; subst he_)
    | (with_reducible refine load_S (.tmp 5) rfl rfl (p := ⟨w.heap.size, 0, none⟩) rfl (cells_box X.out) ?_)
    | (go_at_call 38; (with_reducible refine (one_any x _).mono ?_); rintro e w1 ⟨he_, hb⟩; rw [HMX.out] at he_; subst he_; clear x0 x1 x2 x3 x4 x5 x6; have X := Aside0.mk (blk_below X.out hb); have HB := Aside0.mk (below_step HB.out hb); obtain ⟨x0, x1, x2, x3, x4, x5, x6⟩ := cellsS X.out; clear hb; rw [HOP.out] at x4)
    | (go_at_call 26; (with_reducible refine (rfind_any x.draw l A c _ (Kd.C_below HR.out HB.out)).mono ?_); rintro e w1 ⟨he_, rfl⟩; rw [HF.out] at he_; subst he_))
  have HSZ0 := Aside0.mk (blk_lt X.out)
  clear x0 x1 x2 x3 x4 x5 x6
  go_loopw [13, 14] (fun v13 v14 wr => ∃ i : Nat, i ≤ l.length ∧ v14 = .int .i64 i ∧ ∃ (A1 : Option Addr) (c1 : Nat), v13 = .slice A1 ((l.take i).filter p).length c1 ∧ Aside0 (kS.R 35 wr (w.heap.size + 1) (fun k => w.heap.size + 1 ≤ k) (.slice A1 ((l.take i).filter p).length c1) ((l.take i).filter p)) ∧ Aside0 (wr.heap[w.heap.size]? = some (.cells (sca x) 35 (0, 0))) ∧ Aside0 (Below w.heap.size w wr) ∧ Aside0 (w.heap.size + 1 ≤ wr.heap.size)) (fun _ v14 _ => l.length - (intOf v14).toNat)
  case atStart => exact ⟨0, by omega, rfl, none, 0, rfl, ⟨Kd.R_nil _ _ _ _ _⟩, X, HB, HSZ0⟩
  case round =>
    clear X HB HSZ0
    obtain ⟨i, hi, rfl, A1, c1, rfl, HO, X, HB, HSZ⟩ := hrel
    obtain ⟨wo, rfl⟩ : ∃ wo : World, wo = wr := ⟨_, rfl⟩
    by_cases hlt : i < l.length
    · have hmk := hlt
      obtain ⟨y, hy⟩ : ∃ y, l[i]? = some y := ⟨_, List.getElem?_eq_getElem hlt⟩
      obtain ⟨ad, e0, hall⟩ := all_S HR.out hlt hy
      subst e0
      have HX := Aside0.mk hall
      have HY := Aside0.mk hy
      have HLEN := Aside0.mk (show (((l.take i).filter p).length + 1) * 88 ≤ 140737488355328 by have := filt_len p l i; have := HL.out; omega)
      have hi2 : (i : Int) ≤ 1000000 := by omega
      clear hall hy
      have hpy : p y = true := by rw [HPP.out]; simp [h6]
      obtain ⟨bl, hbl⟩ : ∃ bl, lateB y idle now = bl := ⟨_, rfl⟩
      have HLA := Aside0.mk hbl
      clear hbl
      have HK := Aside0.mk (filt_yes HY.out hpy)
      clear hpy
      go_wp2_with (first
        | (with_reducible refine load_S (.tmp 52) rfl rfl (p := ad.add (i * 39)) rfl (HX.out _ HB.out) ?_)
        | (go_at_call 24; (with_reducible refine (rlate_any y idle now _).mono ?_); rintro e w1 ⟨he_, hb⟩; rw [HLA.out] at he_; subst he_; have X := Aside0.mk (blk_below X.out hb); have HO := Aside0.mk (Kd.R_below HO.out hb); have HB := Aside0.mk (below_step HB.out hb); have HSZ := Aside0.mk (Nat.le_trans HSZ.out hb.size); clear hb)
        | (with_reducible refine load_S (.tmp 67) rfl rfl (p := ad.add (i * 39)) rfl (HX.out _ HB.out) ?_)
        | ((with_reducible refine gate_build (.tmp 68) rfl ?_); refine Kd.event_run rfl (exec_buildS (.tmp 68) rfl rfl) ?_)
        | ((with_reducible refine gate_builtin (b := .append) (xs := #[.tmp 64, .tmp 69]) rfl ?_); at_builtin; refine Kd.R_append kS (w0 := _) (w.heap.size + 1) rfl (.tmp 64) (.tmp 69) 22 35 (.agg (sca zses)) 88 rfl Try.underlying22 infoZ (sca_size _) (by decide) (by omega) _ _ y (scl y) (fun k => w.heap.size + 1 ≤ k) (fun _ => False) rfl rfl rfl (fun _ h => h.elim) ?aF HO.out (Below.refl _ _) HSZ.out ?aL ?_; (case aF => exact fun k hk => Nat.le_trans HSZ.out hk); (case aL => exact HLEN.out); intro v1 w1 ho hb hg hat; obtain ⟨A2, c2, e2_⟩ := Kd.R_slice ho; rw [List.length_append, List.length_singleton] at e2_; subst e2_; have HO2 := Aside0.mk ho; have HB2 := Aside0.mk (HB.out.trans (hb.mono (by omega))); have X2 := Aside0.mk ((hb.block w.heap.size (by omega)).trans X.out); have HSZ2 := Aside0.mk (Nat.le_trans HSZ.out hb.size); clear ho hb hg hat))
      go_roundw
      case rel => exact ⟨i + 1, by omega, by go_num, A2, c2, by rw [HK.out, List.length_append, List.length_singleton], by rw [HK.out, List.length_append, List.length_singleton]; exact HO2, X2, HB2, HSZ2⟩
      case measure => simp [intOf]; omega
    · obtain rfl : i = l.length := by omega
      have HLEN := Aside0.mk (show (((l.take l.length).filter p).length + 1) * 88 ≤ 140737488355328 by have := filt_len p l l.length; have := HL.out; omega)
      have e1 : ((l.take l.length).filter p).length = q := by rw [List.take_length]; exact HQ.out
      rw [e1] at HO
      have HE := Aside0.mk e1
      clear e1
      obtain ⟨x0, x1, x2, x3, x4, x5, x6⟩ := cellsS X.out
      simp only [HE.out]
      go_wp2_with (first
        | ((with_reducible refine gate_store2 3 (.tmp 76) (.tmp 75) rfl ?_); refine store_last (.tmp 76) (.tmp 75) rfl rfl rfl now rfl rfl X.out ?_; intro w2 hx1 hx2 hx3 hx4; have XL := Aside0.mk hx1; have HO := Aside0.mk (Kd.R_step HO.out (fun k hk _ => hx2 k (by omega))); have HB := Aside0.mk (hx3 _ _ (Nat.le_refl _) HB.out); have HSZ := Aside0.mk (show w.heap.size + 1 ≤ w2.heap.size by rw [hx4]; exact HSZ.out); have X := XL; clear hx1 hx2 hx3 hx4)
        | (with_reducible refine load_S (.tmp 5) rfl rfl (p := ⟨w.heap.size, 0, none⟩) rfl (cells_box XL.out) ?_)
        | ((with_reducible refine gate_build (.tmp 78) rfl ?_); refine Kd.event_run rfl (exec_buildS (.tmp 78) rfl rfl) ?_)
        | ((with_reducible refine gate_builtin (b := .append) (xs := #[.tmp 77, .tmp 79]) rfl ?_); at_builtin; refine Kd.R_append kS (w0 := _) (w.heap.size + 1) rfl (.tmp 77) (.tmp 79) 22 35 (.agg (sca zses)) 88 rfl Try.underlying22 infoZ (sca_size _) (by decide) (by omega) _ _ { x with last := now } (scl { x with last := now }) (fun k => w.heap.size + 1 ≤ k) (fun _ => False) rfl rfl rfl (fun _ h => h.elim) ?aF HO.out (Below.refl _ _) HSZ.out ?aL ?_; (case aF => exact fun k hk => Nat.le_trans HSZ.out hk); (case aL => exact HLEN.out); intro v1 w1 ho hb hg hat; obtain ⟨A2, c2, e2_⟩ := Kd.R_slice ho; subst e2_; have HO2 := Aside0.mk ho; have HB2 := Aside0.mk (HB.out.trans (hb.mono (by omega))); have HSZ2 := Aside0.mk (Nat.le_trans HSZ.out hb.size); clear ho hb hg hat))
      go_ret2
      refine ⟨_, rfl, ?_, HB2.out⟩
      have h := told_R HO2.out
      rw [List.take_length, List.length_append, List.length_singleton] at h
      exact h
set_option maxHeartbeats 4000000 in
set_option maxRecDepth 100000 in
theorem rbegin_cut (x : Ses) (idle now : Int) (l : List Ses) (A : Option Addr) (c : Nat) (w : World) (hr : kS.C w A l.length l) (hc : l.length ≤ c) (hl : l.length < 1000000) (p : Ses → Bool) (hpp : p = fun y => decide (l.length < 4) || !lateB y idle now) (h1 : mayS l = true) (h2 : timesB idle now = true) (h3 : mayB x = true) (h4 : x.isOpen = false) (h5 : findS l x.draw = -1) (h6 : ¬ l.length < 4) (h7 : (l.filter p).length ≠ 4) :
    Calls Try.prog 16 #[.slice A l.length c, .agg (sca x), .int .i64 idle, .int .i64 now] w fun e w' => ∃ v : Value, e = .returned (.tuple #[v, .int .i64 0]) ∧ ToldS w' v (l.filter p ++ [{ x with last := now }]) ∧ Below w.heap.size w w' := by
  have HR := Aside0.mk hr
  have HC := Aside0.mk hc
  have HL := Aside0.mk hl
  have hlc := hl
  have X := Aside0.mk (blk_new w (.cells (sca x) 35))
  have HB := Aside0.mk (below_box w x)
  obtain ⟨x0, x1, x2, x3, x4, x5, x6⟩ := cellsS X.out
  clear hr hc hl
  rw [h4] at x4
  have HM := Aside0.mk h1
  have HT := Aside0.mk h2
  have HMX := Aside0.mk h3
  have HOP := Aside0.mk h4
  clear h1 h2 h3 h4
  have HF := Aside0.mk h5
  have HPP := Aside0.mk hpp
  clear h5 hpp
  have h6b : decide ((l.length : Int) < 4) = false := decide_eq_false (by omega)
  obtain ⟨q, hq⟩ : ∃ q, (l.filter p).length = q := ⟨_, rfl⟩
  have HQ := Aside0.mk hq
  rw [hq] at h7
  have h7b : ((q : Int) == 4) = false := by simpa using (show ¬ ((q : Int) = 4) by omega)
  clear hq h7
  go_enter Try.func16, Try.ntmps16
  go_wp2_with (first
    | (go_at_call 23; (with_reducible refine (rmayL_any l A c _ (Kd.C_below HR.out HB.out) HC.out).mono ?_); rintro e w1 ⟨he_, hb⟩; rw [HM.out] at he_; subst he_; clear x0 x1 x2 x3 x4 x5 x6; have X := Aside0.mk (blk_below X.out hb); have HB := Aside0.mk (below_step HB.out hb); obtain ⟨x0, x1, x2, x3, x4, x5, x6⟩ := cellsS X.out; rw [HOP.out] at x4; clear hb)
    | (go_at_call 37; (with_reducible refine (rtimes_any idle now _).mono ?_); rintro e w1 ⟨he_, rfl⟩; rw [HT.out] at he_; subst he_)
    | (with_reducible refine load_S (.tmp 5) rfl rfl (p := ⟨w.heap.size, 0, none⟩) rfl (cells_box X.out) ?_)
    | (go_at_call 38; (with_reducible refine (one_any x _).mono ?_); rintro e w1 ⟨he_, hb⟩; rw [HMX.out] at he_; subst he_; clear x0 x1 x2 x3 x4 x5 x6; have X := Aside0.mk (blk_below X.out hb); have HB := Aside0.mk (below_step HB.out hb); obtain ⟨x0, x1, x2, x3, x4, x5, x6⟩ := cellsS X.out; clear hb; rw [HOP.out] at x4)
    | (go_at_call 26; (with_reducible refine (rfind_any x.draw l A c _ (Kd.C_below HR.out HB.out)).mono ?_); rintro e w1 ⟨he_, rfl⟩; rw [HF.out] at he_; subst he_))
  have HSZ0 := Aside0.mk (blk_lt X.out)
  clear x0 x1 x2 x3 x4 x5 x6
  go_loopw [13, 14] (fun v13 v14 wr => ∃ i : Nat, i ≤ l.length ∧ v14 = .int .i64 i ∧ ∃ (A1 : Option Addr) (c1 : Nat), v13 = .slice A1 ((l.take i).filter p).length c1 ∧ Aside0 (kS.R 35 wr (w.heap.size + 1) (fun k => w.heap.size + 1 ≤ k) (.slice A1 ((l.take i).filter p).length c1) ((l.take i).filter p)) ∧ Aside0 (wr.heap[w.heap.size]? = some (.cells (sca x) 35 (0, 0))) ∧ Aside0 (Below w.heap.size w wr) ∧ Aside0 (w.heap.size + 1 ≤ wr.heap.size)) (fun _ v14 _ => l.length - (intOf v14).toNat)
  case atStart => exact ⟨0, by omega, rfl, none, 0, rfl, ⟨Kd.R_nil _ _ _ _ _⟩, X, HB, HSZ0⟩
  case round =>
    clear X HB HSZ0
    obtain ⟨i, hi, rfl, A1, c1, rfl, HO, X, HB, HSZ⟩ := hrel
    obtain ⟨wo, rfl⟩ : ∃ wo : World, wo = wr := ⟨_, rfl⟩
    by_cases hlt : i < l.length
    · have hmk := hlt
      obtain ⟨y, hy⟩ : ∃ y, l[i]? = some y := ⟨_, List.getElem?_eq_getElem hlt⟩
      obtain ⟨ad, e0, hall⟩ := all_S HR.out hlt hy
      subst e0
      have HX := Aside0.mk hall
      have HY := Aside0.mk hy
      have HLEN := Aside0.mk (show (((l.take i).filter p).length + 1) * 88 ≤ 140737488355328 by have := filt_len p l i; have := HL.out; omega)
      have hi2 : (i : Int) ≤ 1000000 := by omega
      clear hall hy
      cases hbl : lateB y idle now with
      | false =>
        have hpy : p y = true := by rw [HPP.out]; simp [hbl]
        have HLA := Aside0.mk hbl
        clear hbl
        have HK := Aside0.mk (filt_yes HY.out hpy)
        clear hpy
        go_wp2_with (first
          | (with_reducible refine load_S (.tmp 52) rfl rfl (p := ad.add (i * 39)) rfl (HX.out _ HB.out) ?_)
          | (go_at_call 24; (with_reducible refine (rlate_any y idle now _).mono ?_); rintro e w1 ⟨he_, hb⟩; rw [HLA.out] at he_; subst he_; have X := Aside0.mk (blk_below X.out hb); have HO := Aside0.mk (Kd.R_below HO.out hb); have HB := Aside0.mk (below_step HB.out hb); have HSZ := Aside0.mk (Nat.le_trans HSZ.out hb.size); clear hb)
          | (with_reducible refine load_S (.tmp 67) rfl rfl (p := ad.add (i * 39)) rfl (HX.out _ HB.out) ?_)
          | ((with_reducible refine gate_build (.tmp 68) rfl ?_); refine Kd.event_run rfl (exec_buildS (.tmp 68) rfl rfl) ?_)
          | ((with_reducible refine gate_builtin (b := .append) (xs := #[.tmp 64, .tmp 69]) rfl ?_); at_builtin; refine Kd.R_append kS (w0 := _) (w.heap.size + 1) rfl (.tmp 64) (.tmp 69) 22 35 (.agg (sca zses)) 88 rfl Try.underlying22 infoZ (sca_size _) (by decide) (by omega) _ _ y (scl y) (fun k => w.heap.size + 1 ≤ k) (fun _ => False) rfl rfl rfl (fun _ h => h.elim) ?aF HO.out (Below.refl _ _) HSZ.out ?aL ?_; (case aF => exact fun k hk => Nat.le_trans HSZ.out hk); (case aL => exact HLEN.out); intro v1 w1 ho hb hg hat; obtain ⟨A2, c2, e2_⟩ := Kd.R_slice ho; rw [List.length_append, List.length_singleton] at e2_; subst e2_; have HO2 := Aside0.mk ho; have HB2 := Aside0.mk (HB.out.trans (hb.mono (by omega))); have X2 := Aside0.mk ((hb.block w.heap.size (by omega)).trans X.out); have HSZ2 := Aside0.mk (Nat.le_trans HSZ.out hb.size); clear ho hb hg hat))
        go_roundw
        case rel => exact ⟨i + 1, by omega, by go_num, A2, c2, by rw [HK.out, List.length_append, List.length_singleton], by rw [HK.out, List.length_append, List.length_singleton]; exact HO2, X2, HB2, HSZ2⟩
        case measure => simp [intOf]; omega
      | true =>
        have hpy : p y = false := by rw [HPP.out]; simp [hbl, h6]
        have HLA := Aside0.mk hbl
        have HK := Aside0.mk (filt_no HY.out hpy)
        clear hbl hpy
        go_wp2_with (first
          | (with_reducible refine load_S (.tmp 52) rfl rfl (p := ad.add (i * 39)) rfl (HX.out _ HB.out) ?_)
          | (go_at_call 24; (with_reducible refine (rlate_any y idle now _).mono ?_); rintro e w1 ⟨he_, hb⟩; rw [HLA.out] at he_; subst he_; have X := Aside0.mk (blk_below X.out hb); have HO := Aside0.mk (Kd.R_below HO.out hb); have HB := Aside0.mk (below_step HB.out hb); have HSZ := Aside0.mk (Nat.le_trans HSZ.out hb.size); clear hb))
        go_roundw
        case rel => exact ⟨i + 1, by omega, by go_num, A1, c1, by rw [HK.out], by rw [HK.out]; exact HO, X, HB, HSZ⟩
        case measure => simp [intOf]; omega
    · obtain rfl : i = l.length := by omega
      have HLEN := Aside0.mk (show (((l.take l.length).filter p).length + 1) * 88 ≤ 140737488355328 by have := filt_len p l l.length; have := HL.out; omega)
      have e1 : ((l.take l.length).filter p).length = q := by rw [List.take_length]; exact HQ.out
      rw [e1] at HO
      have HE := Aside0.mk e1
      clear e1
      obtain ⟨x0, x1, x2, x3, x4, x5, x6⟩ := cellsS X.out
      simp only [HE.out]
      go_wp2_with (first
        | ((with_reducible refine gate_store2 3 (.tmp 76) (.tmp 75) rfl ?_); refine store_last (.tmp 76) (.tmp 75) rfl rfl rfl now rfl rfl X.out ?_; intro w2 hx1 hx2 hx3 hx4; have XL := Aside0.mk hx1; have HO := Aside0.mk (Kd.R_step HO.out (fun k hk _ => hx2 k (by omega))); have HB := Aside0.mk (hx3 _ _ (Nat.le_refl _) HB.out); have HSZ := Aside0.mk (show w.heap.size + 1 ≤ w2.heap.size by rw [hx4]; exact HSZ.out); have X := XL; clear hx1 hx2 hx3 hx4)
        | (with_reducible refine load_S (.tmp 5) rfl rfl (p := ⟨w.heap.size, 0, none⟩) rfl (cells_box XL.out) ?_)
        | ((with_reducible refine gate_build (.tmp 78) rfl ?_); refine Kd.event_run rfl (exec_buildS (.tmp 78) rfl rfl) ?_)
        | ((with_reducible refine gate_builtin (b := .append) (xs := #[.tmp 77, .tmp 79]) rfl ?_); at_builtin; refine Kd.R_append kS (w0 := _) (w.heap.size + 1) rfl (.tmp 77) (.tmp 79) 22 35 (.agg (sca zses)) 88 rfl Try.underlying22 infoZ (sca_size _) (by decide) (by omega) _ _ { x with last := now } (scl { x with last := now }) (fun k => w.heap.size + 1 ≤ k) (fun _ => False) rfl rfl rfl (fun _ h => h.elim) ?aF HO.out (Below.refl _ _) HSZ.out ?aL ?_; (case aF => exact fun k hk => Nat.le_trans HSZ.out hk); (case aL => exact HLEN.out); intro v1 w1 ho hb hg hat; obtain ⟨A2, c2, e2_⟩ := Kd.R_slice ho; subst e2_; have HO2 := Aside0.mk ho; have HB2 := Aside0.mk (HB.out.trans (hb.mono (by omega))); have HSZ2 := Aside0.mk (Nat.le_trans HSZ.out hb.size); clear ho hb hg hat))
      go_ret2
      refine ⟨_, rfl, ?_, HB2.out⟩
      have h := told_R HO2.out
      rw [List.take_length, List.length_append, List.length_singleton] at h
      exact h
set_option maxHeartbeats 4000000 in
set_option maxRecDepth 100000 in
theorem rbegin_full (x : Ses) (idle now : Int) (l : List Ses) (A : Option Addr) (c : Nat) (w : World) (hr : kS.C w A l.length l) (hc : l.length ≤ c) (hl : l.length < 1000000) (p : Ses → Bool) (hpp : p = fun y => decide (l.length < 4) || !lateB y idle now) (h1 : mayS l = true) (h2 : timesB idle now = true) (h3 : mayB x = true) (h4 : x.isOpen = false) (h5 : findS l x.draw = -1) (h6 : ¬ l.length < 4) (h7 : (l.filter p).length = 4) :
    Calls Try.prog 16 #[.slice A l.length c, .agg (sca x), .int .i64 idle, .int .i64 now] w fun e w' => ∃ v : Value, e = .returned (.tuple #[v, .int .i64 12]) ∧ ToldS w' v (l) ∧ Below w.heap.size w w' := by
  have HR := Aside0.mk hr
  have HC := Aside0.mk hc
  have HL := Aside0.mk hl
  have hlc := hl
  have X := Aside0.mk (blk_new w (.cells (sca x) 35))
  have HB := Aside0.mk (below_box w x)
  obtain ⟨x0, x1, x2, x3, x4, x5, x6⟩ := cellsS X.out
  clear hr hc hl
  rw [h4] at x4
  have HM := Aside0.mk h1
  have HT := Aside0.mk h2
  have HMX := Aside0.mk h3
  have HOP := Aside0.mk h4
  clear h1 h2 h3 h4
  have HF := Aside0.mk h5
  have HPP := Aside0.mk hpp
  clear h5 hpp
  have h6b : decide ((l.length : Int) < 4) = false := decide_eq_false (by omega)
  obtain ⟨q, hq⟩ : ∃ q, (l.filter p).length = q := ⟨_, rfl⟩
  have HQ := Aside0.mk hq
  rw [hq] at h7
  have h7b : ((q : Int) == 4) = true := by simp [h7]
  clear hq h7
  go_enter Try.func16, Try.ntmps16
  go_wp2_with (first
    | (go_at_call 23; (with_reducible refine (rmayL_any l A c _ (Kd.C_below HR.out HB.out) HC.out).mono ?_); rintro e w1 ⟨he_, hb⟩; rw [HM.out] at he_; subst he_; clear x0 x1 x2 x3 x4 x5 x6; have X := Aside0.mk (blk_below X.out hb); have HB := Aside0.mk (below_step HB.out hb); obtain ⟨x0, x1, x2, x3, x4, x5, x6⟩ := cellsS X.out; rw [HOP.out] at x4; clear hb)
    | (go_at_call 37; (with_reducible refine (rtimes_any idle now _).mono ?_); rintro e w1 ⟨he_, rfl⟩; rw [HT.out] at he_; subst he_)
    | (with_reducible refine load_S (.tmp 5) rfl rfl (p := ⟨w.heap.size, 0, none⟩) rfl (cells_box X.out) ?_)
    | (go_at_call 38; (with_reducible refine (one_any x _).mono ?_); rintro e w1 ⟨he_, hb⟩; rw [HMX.out] at he_; subst he_; clear x0 x1 x2 x3 x4 x5 x6; have X := Aside0.mk (blk_below X.out hb); have HB := Aside0.mk (below_step HB.out hb); obtain ⟨x0, x1, x2, x3, x4, x5, x6⟩ := cellsS X.out; clear hb; rw [HOP.out] at x4)
    | (go_at_call 26; (with_reducible refine (rfind_any x.draw l A c _ (Kd.C_below HR.out HB.out)).mono ?_); rintro e w1 ⟨he_, rfl⟩; rw [HF.out] at he_; subst he_))
  have HSZ0 := Aside0.mk (blk_lt X.out)
  clear x0 x1 x2 x3 x4 x5 x6
  go_loopw [13, 14] (fun v13 v14 wr => ∃ i : Nat, i ≤ l.length ∧ v14 = .int .i64 i ∧ ∃ (A1 : Option Addr) (c1 : Nat), v13 = .slice A1 ((l.take i).filter p).length c1 ∧ Aside0 (kS.R 35 wr (w.heap.size + 1) (fun k => w.heap.size + 1 ≤ k) (.slice A1 ((l.take i).filter p).length c1) ((l.take i).filter p)) ∧ Aside0 (wr.heap[w.heap.size]? = some (.cells (sca x) 35 (0, 0))) ∧ Aside0 (Below w.heap.size w wr) ∧ Aside0 (w.heap.size + 1 ≤ wr.heap.size)) (fun _ v14 _ => l.length - (intOf v14).toNat)
  case atStart => exact ⟨0, by omega, rfl, none, 0, rfl, ⟨Kd.R_nil _ _ _ _ _⟩, X, HB, HSZ0⟩
  case round =>
    clear X HB HSZ0
    obtain ⟨i, hi, rfl, A1, c1, rfl, HO, X, HB, HSZ⟩ := hrel
    obtain ⟨wo, rfl⟩ : ∃ wo : World, wo = wr := ⟨_, rfl⟩
    by_cases hlt : i < l.length
    · have hmk := hlt
      obtain ⟨y, hy⟩ : ∃ y, l[i]? = some y := ⟨_, List.getElem?_eq_getElem hlt⟩
      obtain ⟨ad, e0, hall⟩ := all_S HR.out hlt hy
      subst e0
      have HX := Aside0.mk hall
      have HY := Aside0.mk hy
      have HLEN := Aside0.mk (show (((l.take i).filter p).length + 1) * 88 ≤ 140737488355328 by have := filt_len p l i; have := HL.out; omega)
      have hi2 : (i : Int) ≤ 1000000 := by omega
      clear hall hy
      cases hbl : lateB y idle now with
      | false =>
        have hpy : p y = true := by rw [HPP.out]; simp [hbl]
        have HLA := Aside0.mk hbl
        clear hbl
        have HK := Aside0.mk (filt_yes HY.out hpy)
        clear hpy
        go_wp2_with (first
          | (with_reducible refine load_S (.tmp 52) rfl rfl (p := ad.add (i * 39)) rfl (HX.out _ HB.out) ?_)
          | (go_at_call 24; (with_reducible refine (rlate_any y idle now _).mono ?_); rintro e w1 ⟨he_, hb⟩; rw [HLA.out] at he_; subst he_; have X := Aside0.mk (blk_below X.out hb); have HO := Aside0.mk (Kd.R_below HO.out hb); have HB := Aside0.mk (below_step HB.out hb); have HSZ := Aside0.mk (Nat.le_trans HSZ.out hb.size); clear hb)
          | (with_reducible refine load_S (.tmp 67) rfl rfl (p := ad.add (i * 39)) rfl (HX.out _ HB.out) ?_)
          | ((with_reducible refine gate_build (.tmp 68) rfl ?_); refine Kd.event_run rfl (exec_buildS (.tmp 68) rfl rfl) ?_)
          | ((with_reducible refine gate_builtin (b := .append) (xs := #[.tmp 64, .tmp 69]) rfl ?_); at_builtin; refine Kd.R_append kS (w0 := _) (w.heap.size + 1) rfl (.tmp 64) (.tmp 69) 22 35 (.agg (sca zses)) 88 rfl Try.underlying22 infoZ (sca_size _) (by decide) (by omega) _ _ y (scl y) (fun k => w.heap.size + 1 ≤ k) (fun _ => False) rfl rfl rfl (fun _ h => h.elim) ?aF HO.out (Below.refl _ _) HSZ.out ?aL ?_; (case aF => exact fun k hk => Nat.le_trans HSZ.out hk); (case aL => exact HLEN.out); intro v1 w1 ho hb hg hat; obtain ⟨A2, c2, e2_⟩ := Kd.R_slice ho; rw [List.length_append, List.length_singleton] at e2_; subst e2_; have HO2 := Aside0.mk ho; have HB2 := Aside0.mk (HB.out.trans (hb.mono (by omega))); have X2 := Aside0.mk ((hb.block w.heap.size (by omega)).trans X.out); have HSZ2 := Aside0.mk (Nat.le_trans HSZ.out hb.size); clear ho hb hg hat))
        go_roundw
        case rel => exact ⟨i + 1, by omega, by go_num, A2, c2, by rw [HK.out, List.length_append, List.length_singleton], by rw [HK.out, List.length_append, List.length_singleton]; exact HO2, X2, HB2, HSZ2⟩
        case measure => simp [intOf]; omega
      | true =>
        have hpy : p y = false := by rw [HPP.out]; simp [hbl, h6]
        have HLA := Aside0.mk hbl
        have HK := Aside0.mk (filt_no HY.out hpy)
        clear hbl hpy
        go_wp2_with (first
          | (with_reducible refine load_S (.tmp 52) rfl rfl (p := ad.add (i * 39)) rfl (HX.out _ HB.out) ?_)
          | (go_at_call 24; (with_reducible refine (rlate_any y idle now _).mono ?_); rintro e w1 ⟨he_, hb⟩; rw [HLA.out] at he_; subst he_; have X := Aside0.mk (blk_below X.out hb); have HO := Aside0.mk (Kd.R_below HO.out hb); have HB := Aside0.mk (below_step HB.out hb); have HSZ := Aside0.mk (Nat.le_trans HSZ.out hb.size); clear hb))
        go_roundw
        case rel => exact ⟨i + 1, by omega, by go_num, A1, c1, by rw [HK.out], by rw [HK.out]; exact HO, X, HB, HSZ⟩
        case measure => simp [intOf]; omega
    · obtain rfl : i = l.length := by omega
      have HLEN := Aside0.mk (show (((l.take l.length).filter p).length + 1) * 88 ≤ 140737488355328 by have := filt_len p l l.length; have := HL.out; omega)
      have e1 : ((l.take l.length).filter p).length = q := by rw [List.take_length]; exact HQ.out
      rw [e1] at HO
      have HE := Aside0.mk e1
      clear e1
      obtain ⟨x0, x1, x2, x3, x4, x5, x6⟩ := cellsS X.out
      simp only [HE.out]
      go_wp2
      go_ret2
      exact ⟨_, rfl, told_C (Kd.C_below HR.out HB.out) HC.out, HB.out⟩
theorem rbegin_any (x : Ses) (idle now : Int) (l : List Ses) (A : Option Addr) (c : Nat) (w : World) (hr : kS.C w A l.length l) (hc : l.length ≤ c) (hl : l.length < 1000000) (r1 : List Ses) (r2 : Int) (h : beginS l x idle now = (r1, r2)) :
    Calls Try.prog 16 #[.slice A l.length c, .agg (sca x), .int .i64 idle, .int .i64 now] w fun e w' => ∃ v : Value, e = .returned (.tuple #[v, .int .i64 r2]) ∧ ToldS w' v r1 ∧ Below w.heap.size w w' := by
  unfold beginS at h
  by_cases h0 : mayS l = false ∨ timesB idle now = false ∨ mayB x = false ∨ x.isOpen = true
  · rw [if_pos h0] at h
    cases h
    exact rbegin_arg x idle now _ A c w hr hc hl _ _ _ _ rfl rfl rfl rfl h0
  rw [if_neg h0] at h
  have h1 : mayS l = true := by
    cases e : mayS l with
    | true => rfl
    | false => exact absurd (.inl e) h0
  have h2 : timesB idle now = true := by
    cases e : timesB idle now with
    | true => rfl
    | false => exact absurd (.inr (.inl e)) h0
  have h3 : mayB x = true := by
    cases e : mayB x with
    | true => rfl
    | false => exact absurd (.inr (.inr (.inl e))) h0
  have h4 : x.isOpen = false := by
    cases e : x.isOpen with
    | false => rfl
    | true => exact absurd (.inr (.inr (.inr e))) h0
  clear h0
  have hm : mayP l := of_decide_eq_true h1
  have h4l := hm.2.2
  by_cases h5 : findS l x.draw = -1
  · rw [if_pos h5] at h
    by_cases h6 : l.length = 4
    · have e : l.filter (fun y => decide (l.length < 4) || !lateB y idle now) = awakeS l idle now := by
        unfold awakeS
        rw [decide_eq_false (by omega)]
        rfl
      rw [if_pos h6] at h
      by_cases h7 : (awakeS l idle now).length = 4
      · rw [if_pos h7] at h
        cases h
        exact rbegin_full x idle now _ A c w hr hc hl _ rfl h1 h2 h3 h4 h5 (by omega) (by rw [e]; exact h7)
      · rw [if_neg h7] at h
        cases h
        have z := rbegin_cut x idle now _ A c w hr hc hl _ rfl h1 h2 h3 h4 h5 (by omega) (by rw [e]; exact h7)
        rw [e] at z
        exact z
    · have e : l.filter (fun y => decide (l.length < 4) || !lateB y idle now) = l := by
        rw [decide_eq_true (by omega)]
        exact List.filter_eq_self.2 (fun _ _ => rfl)
      rw [if_neg h6, if_neg h6] at h
      cases h
      have z := rbegin_all x idle now _ A c w hr hc hl _ rfl h1 h2 h3 h4 h5 (by omega) (by rw [e]; exact h6)
      rw [e] at z
      exact z
  · rw [if_neg h5] at h
    cases h
    exact rbegin_there x idle now _ A c w hr hc hl h1 h2 h3 h4 h5
end Go.Proofs.Ytmhphkclgdaajaa.P
