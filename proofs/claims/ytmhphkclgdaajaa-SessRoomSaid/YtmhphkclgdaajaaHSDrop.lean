/- pelicanref18.without, sess.Drop, pelicanref18.Drop. -/
import Derived.Test.YtmhphkclgdaajaaHSDel2
namespace Go.Proofs.Ytmhphkclgdaajaa.P
open Go.RowKit Go.Lib Go.Proofs.YtmhphkclgdaajaaW.PrintWords Go.Proofs.YtmhphkclgdaajaaW.PrintLast Go.Proofs.YtmhphkclgdaajaaW.PrintMore
set_option linter.unusedVariables false
set_option linter.unusedSimpArgs false
/-- A row of sessions that is told: it can be read. -/
def ToldS (w' : World) (v : Value) (r : List Ses) : Prop := ∃ (A : Option Addr) (c : Nat), v = .slice A r.length c ∧ r.length ≤ c ∧ kS.C w' A r.length r
theorem told_R {w' : World} {base : Nat} {ok : Nat → Prop} {v : Value} {r : List Ses} (h : kS.R 35 w' base ok v r) : ToldS w' v r := by
  obtain ⟨A, c, h1, h2, h3⟩ := Kd.R_reads h
  exact ⟨A, c, h1, h2, h3⟩
theorem told_C {w' : World} {A : Option Addr} {c : Nat} {r : List Ses} (h : kS.C w' A r.length r) (hc : r.length ≤ c) : ToldS w' (.slice A r.length c) r := ⟨A, c, rfl, hc, h⟩
theorem told_below {w w' : World} {v : Value} {r : List Ses} (h : ToldS w v r) (hb : Below w.heap.size w w') : ToldS w' v r := by
  obtain ⟨A, c, h1, h2, h3⟩ := h
  exact ⟨A, c, h1, h2, Kd.C_below h3 hb⟩
/-- An index inside: the row's address. -/
theorem some_of {w : World} {A : Option Addr} {l : List Ses} (h : kS.C w A l.length l) (hp : 0 < l.length) : ∃ ad, A = some ad := by
  obtain ⟨ad, e, _⟩ := h.2.2 hp
  exact ⟨ad, e⟩
set_option maxHeartbeats 1000000 in
set_option maxRecDepth 100000 in
theorem without_any (i : Nat) (l : List Ses) (A : Option Addr) (c : Nat) (w : World) (hr : kS.C w A l.length l) (hc : l.length ≤ c) (hi : i < l.length) (hl : l.length < 1000000) :
    Calls Try.prog 40 #[.slice A l.length c, .int .i64 i] w fun e w' => ∃ v : Value, e = .returned v ∧ kS.R 35 w' w.heap.size (fun _ => True) v (l.eraseIdx i) ∧ Below w.heap.size w w' := by
  have HR := Aside0.mk hr
  have HC := Aside0.mk hc
  have HI := Aside0.mk hi
  have HL := Aside0.mk hl
  have HB := Aside0.mk (Below.refl w.heap.size w)
  have HE := Aside0.mk (show (([] : List Ses) ++ l.take i).length = i by rw [List.nil_append, List.length_take]; omega)
  have c1 := cut_toS A l.length c i (by omega) hc
  have c2 := cut_fromS A l.length c (i + 1) hi
  rw [show ((i + 1 : Nat) : Int) = (i : Int) + 1 by omega] at c2
  obtain ⟨A2, hA2⟩ : ∃ A2, A2 = if c = i + 1 then A else A.map (·.add ((i + 1) * 39)) := ⟨_, rfl⟩
  rw [← hA2] at c2
  have HA := Aside0.mk hA2
  have e1 : (l.take i).length = i := by rw [List.length_take]; omega
  have e2 : (l.drop (i + 1)).length = l.length - (i + 1) := List.length_drop
  have h1 := Kd.C_take (m := i) hr (by omega)
  have h2 := Kd.C_drop (m := i + 1) hr hi hc
  rw [e1] at h1
  rw [e2, show kS.sz = 39 from rfl, ← hA2] at h2
  have H1 := Aside0.mk h1
  have H2 := Aside0.mk h2
  have hi2 : (i : Int) ≤ 1000000 := by omega
  clear hr hc hA2 h1 h2 e1 e2 hi hl
  go_enter Try.func40, Try.ntmps40
  go_wp2_with (first
    | ((with_reducible refine gate_builtin (b := .append) (xs := #[.const (.slice none 0 0), .tmp 8]) rfl ?_); at_builtin; refine Kd.R_append_rows kS (w0 := w) w.heap.size rfl (.const (.slice none 0 0)) (.tmp 8) 22 35 (.agg (sca zses)) 88 rfl Try.underlying22 infoZ (sca_size _) (by decide) (by omega) (.slice none 0 0) ([] : List Ses) (l.take i) _ _ _ (fun _ => True) (fun _ => False) rfl rfl (Kd.R_nil _ _ _ _ _) H1.out (fun _ _ h => h) (fun _ h => h.elim) (fun _ _ => trivial) HB.out (Nat.le_refl _) (by have := HI.out; have := HL.out; simp; omega) ?_; intro v1 w1 ho hb hg hat; obtain ⟨A1, cc1, e1_⟩ := Kd.R_slice ho; rw [HE.out] at e1_; subst e1_; have HO1 := Aside0.mk ho; have HB1 := Aside0.mk hb; clear ho hb hg hat)
    | ((with_reducible refine gate_builtin (b := .append) (xs := #[.tmp 10, .tmp 14]) rfl ?_); at_builtin; refine Kd.R_append_rows kS (w0 := w) w.heap.size rfl (.tmp 10) (.tmp 14) 22 35 (.agg (sca zses)) 88 rfl Try.underlying22 infoZ (sca_size _) (by decide) (by omega) _ ([] ++ l.take i) (l.drop (i + 1)) _ _ _ (fun _ => True) (fun _ => False) rfl rfl HO1.out (Kd.C_below H2.out HB1.out) (fun _ _ h => h) (fun _ h => h.elim) (fun _ _ => trivial) HB1.out HB1.out.size (by have := HI.out; have := HL.out; simp; omega) ?_; intro v2 w2 ho hb hg hat; have HO2 := Aside0.mk ho; have HB2 := Aside0.mk hb; clear ho hb hg hat))
  go_ret
  refine ⟨_, rfl, ?_, HB2.out⟩
  have h := HO2.out
  rw [List.nil_append, ← List.eraseIdx_eq_take_drop_succ] at h
  exact h
/-- What is left without one of a number. -/
def dropS (l : List Ses) (d : Int) : List Ses := if findS l d = -1 then l else l.eraseIdx (findS l d).toNat
set_option maxHeartbeats 1000000 in
set_option maxRecDepth 100000 in
theorem drop_any (d : Int) (l : List Ses) (A : Option Addr) (c : Nat) (w : World) (hr : kS.C w A l.length l) (hl : l.length < 1000000) :
    Calls Try.prog 20 #[.slice A l.length c, .int .u64 d] w fun e w' => ∃ v : Value, e = .returned (.tuple #[v, .bool (!decide (findS l d = -1))]) ∧ ToldS w' v (dropS l d) ∧ Below w.heap.size w w' := by
  have HR := Aside0.mk hr
  have HL := Aside0.mk hl
  have hge := findS_ge l d
  obtain ⟨r, hr0⟩ : ∃ r, findS l d = r := ⟨_, rfl⟩
  have HF := Aside0.mk hr0
  unfold dropS
  rw [hr0]
  rw [hr0] at hge
  clear hr hl hr0
  by_cases hn : r = -1
  · subst hn
    rw [if_pos rfl]
    clear hge
    go_enter Try.func20, Try.ntmps20
    go_wp2_with (first
      | (go_at_call 34; (with_reducible refine (clone_any l A c _ HR.out HL.out).mono ?_); rintro e w1 ⟨v, rfl, ho, hb⟩; have HO := Aside0.mk ho; have HB := Aside0.mk hb; clear ho hb)
      | (go_at_call 12; (with_reducible refine (find_any d l A c _ (Kd.C_below HR.out HB.out)).mono ?_); rintro e w1 ⟨he_, hb⟩; rw [HF.out] at he_; subst he_; have HB1 := Aside0.mk (below_step HB.out hb); have HO1 := Aside0.mk (Kd.R_below HO.out hb); clear hb))
    go_ret2
    exact ⟨_, rfl, told_R HO1.out, HB1.out⟩
  · obtain ⟨i, rfl⟩ : ∃ i : Nat, r = i := ⟨r.toNat, by omega⟩
    rw [if_neg hn, Int.toNat_natCast]
    have hi : i < l.length := by omega
    have HI := Aside0.mk hi
    have hf : ((i : Int) == -1) = false := by simp
    have hi2 : (i : Int) ≤ 1000000 := by have := HL.out; omega
    have HNE := Aside0.mk (show (!decide ((i : Int) = -1)) = true by simp)
    clear hge hn hi
    go_enter Try.func20, Try.ntmps20
    go_wp2_with (first
      | (go_at_call 34; (with_reducible refine (clone_any l A c _ HR.out HL.out).mono ?_); rintro e w1 ⟨v, rfl, ho, hb⟩; obtain ⟨g, cap, rfl, _, _, _⟩ := Kd.R_form ho (Nat.lt_of_le_of_lt (Nat.zero_le _) HI.out); have HO := Aside0.mk ho; have HB := Aside0.mk hb; clear ho hb)
      | (go_at_call 12; (with_reducible refine (find_any d l A c _ (Kd.C_below HR.out HB.out)).mono ?_); rintro e w1 ⟨he_, hb⟩; rw [HF.out] at he_; subst he_; have HB1 := Aside0.mk (below_step HB.out hb); have HO1 := Aside0.mk (Kd.R_below HO.out hb); clear hb)
      | (go_at_call 29; (with_reducible refine (delete_any i l g cap w.heap.size _ HO1.out HI.out HB1.out.size).mono ?_); rintro e w2 ⟨rfl, ho, hb⟩; have HO2 := Aside0.mk ho; have HB2 := Aside0.mk (HB1.out.trans hb); clear ho hb))
    go_ret2
    exact ⟨_, by rw [HNE.out]; rfl, told_R HO2.out, HB2.out⟩
set_option maxHeartbeats 1000000 in
set_option maxRecDepth 100000 in
theorem rdrop_any (d : Int) (l : List Ses) (A : Option Addr) (c : Nat) (w : World) (hr : kS.C w A l.length l) (hc : l.length ≤ c) (hl : l.length < 1000000) :
    Calls Try.prog 21 #[.slice A l.length c, .int .u64 d] w fun e w' => ∃ v : Value, e = .returned (.tuple #[v, .bool (!decide (findS l d = -1))]) ∧ ToldS w' v (dropS l d) ∧ Below w.heap.size w w' := by
  have HR := Aside0.mk hr
  have HC := Aside0.mk hc
  have HL := Aside0.mk hl
  have hge := findS_ge l d
  obtain ⟨r, hr0⟩ : ∃ r, findS l d = r := ⟨_, rfl⟩
  have HF := Aside0.mk hr0
  unfold dropS
  rw [hr0]
  rw [hr0] at hge
  clear hr hl hr0 hc
  by_cases hn : r = -1
  · subst hn
    rw [if_pos rfl]
    clear hge
    have HB := Aside0.mk (Below.refl w.heap.size w)
    go_enter Try.func21, Try.ntmps21
    go_wp2_with (first
      | (go_at_call 26; (with_reducible refine (rfind_any d l A c _ HR.out).mono ?_); rintro e w1 ⟨he_, rfl⟩; rw [HF.out] at he_; subst he_))
    go_ret2
    exact ⟨_, rfl, told_C HR.out HC.out, HB.out⟩
  · obtain ⟨i, rfl⟩ : ∃ i : Nat, r = i := ⟨r.toNat, by omega⟩
    rw [if_neg hn, Int.toNat_natCast]
    have hi : i < l.length := by omega
    have HI := Aside0.mk hi
    have HNE := Aside0.mk (show (!decide ((i : Int) = -1)) = true by simp)
    clear hge hn hi
    go_enter Try.func21, Try.ntmps21
    go_wp2_with (first
      | (go_at_call 26; (with_reducible refine (rfind_any d l A c _ HR.out).mono ?_); rintro e w1 ⟨he_, rfl⟩; rw [HF.out] at he_; subst he_)
      | (go_at_call 40; (with_reducible refine (without_any i l A c _ HR.out HC.out HI.out HL.out).mono ?_); rintro e w1 ⟨v, rfl, ho, hb⟩; have HO := Aside0.mk ho; have HB := Aside0.mk hb; clear ho hb))
    go_ret2
    exact ⟨_, by rw [HNE.out]; rfl, told_R HO.out, HB.out⟩
end Go.Proofs.Ytmhphkclgdaajaa.P
