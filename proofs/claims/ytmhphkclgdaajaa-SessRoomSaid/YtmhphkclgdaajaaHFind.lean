/- sess.Find, pelicanref18.Find: slices.IndexFunc at its closures. Printed by genfind.py. -/
import Derived.Test.YtmhphkclgdaajaaHMays
namespace Go.Proofs.Ytmhphkclgdaajaa.P
open Go.RowKit Go.Lib Go.Proofs.YtmhphkclgdaajaaW.PrintWords Go.Proofs.YtmhphkclgdaajaaW.PrintLast Go.Proofs.YtmhphkclgdaajaaW.PrintMore
set_option linter.unusedVariables false
set_option linter.unusedSimpArgs false
/-- The place of the first one of which p is so, or -1. -/
def idxS (p : Ses → Bool) : List Ses → Int
  | [] => -1
  | x :: l => if p x = true then 0 else if idxS p l = -1 then -1 else idxS p l + 1
theorem idxS_ge (p : Ses → Bool) : ∀ l, -1 ≤ idxS p l ∧ idxS p l < l.length
  | [] => by simp [idxS]
  | x :: l => by
    have := idxS_ge p l
    rw [idxS, List.length_cons]
    split
    · omega
    · split <;> omega
theorem idxS_skip (p : Ses → Bool) : ∀ (l k : List Ses), (∀ x ∈ l, p x = false) → idxS p (l ++ k) = if idxS p k = -1 then -1 else idxS p k + l.length
  | [], k, _ => by first | (simp; done) | (simp; intro h; exact h.symm)
  | x :: l, k, h => by
    have h1 := idxS_skip p l k fun y hy => h y (by simp [hy])
    have h2 := idxS_ge p k
    rw [List.cons_append, idxS, if_neg (by rw [h x (by simp)]; decide), h1, List.length_cons]
    by_cases e : idxS p k = -1
    · rw [if_pos e, if_pos e, if_pos rfl]
    · rw [if_neg e, if_neg e, if_neg (by omega)]; omega
theorem idxS_at (p : Ses → Bool) {l : List Ses} {i : Nat} {x : Ses} (hx : l[i]? = some x) (h0 : ∀ x ∈ l.take i, p x = false) (h1 : p x = true) : idxS p l = i := by
  obtain ⟨hi, hx⟩ := List.getElem?_eq_some_iff.1 hx
  have e : l = l.take i ++ (x :: l.drop (i + 1)) := by
    rw [← hx, ← List.drop_eq_getElem_cons hi, List.take_append_drop]
  rw [e, idxS_skip p _ _ h0, idxS, if_pos h1, List.length_take]
  simp
  omega
theorem idxS_none (p : Ses → Bool) {l : List Ses} (h : ∀ x ∈ l, p x = false) : idxS p l = -1 := by
  have := idxS_skip p l [] h
  simpa [idxS] using this
theorem takeS_all {p : Ses → Bool} {l : List Ses} {i : Nat} {x : Ses} (hx : l[i]? = some x) (h0 : ∀ x ∈ l.take i, p x = false) (h1 : p x = false) : ∀ x ∈ l.take (i + 1), p x = false := by
  intro y hy
  rw [List.take_add_one, hx] at hy
  rcases List.mem_append.1 hy with hy | hy
  · exact h0 y hy
  · rw [Option.toList_some, List.mem_singleton] at hy; rw [hy]; exact h1
/-- The place of a session. -/
def findS (l : List Ses) (d : Int) : Int := idxS (fun x => x.draw == d) l
set_option maxHeartbeats 1000000 in
set_option maxRecDepth 100000 in
theorem index_find (d : Int) (b : Nat) (l : List Ses) (A : Option Addr) (c : Nat) (W : World) (hr : Kd.C kS W A l.length l) (hp : W.heap[b]? = some (.cells #[.int .u64 d] 23 (0, 0))) :
    Calls Try.prog 42 #[.slice A l.length c, .func (.func 31) #[] #[.pointer (some ⟨b, 0, none⟩)]] W fun e w' => e = .returned (.int .i64 (idxS (fun x => x.draw == d) l)) ∧ Below W.heap.size W w' := by
  have hml : l.length ≤ 9223372036854775807 := hr.2.1
  have HC := Aside0.mk hr
  have HB := Aside0.mk (Below.refl W.heap.size W)
  have HP := Aside0.mk hp
  clear hp
  clear hr
  obtain ⟨g, hg⟩ : ∃ g : Ses → Bool, g = fun x => x.draw == d := ⟨_, rfl⟩
  rw [← hg]
  have HG := Aside0.mk hg
  clear hg
  go_enter Try.func42, Try.ntmps42
  go_wp2
  go_loopw [8] (fun v8 wr => ∃ i : Nat, i ≤ l.length ∧ v8 = .int .i64 i ∧ Aside0 (∀ x ∈ l.take i, g x = false) ∧ Aside0 (Below W.heap.size W wr)) (fun v8 _ => l.length - (intOf v8).toNat)
  case atStart => exact ⟨0, by omega, rfl, ⟨by simp⟩, HB⟩
  case round =>
    clear HB
    obtain ⟨i, hi, rfl, HS, HB⟩ := hrel
    by_cases hlt : i < l.length
    · obtain ⟨y, hy⟩ : ∃ y, l[i]? = some y := ⟨_, List.getElem?_eq_getElem hlt⟩
      obtain ⟨ad, e0, hc, _⟩ := at_S (Kd.C_below HC.out HB.out) i hlt y hy
      subst e0
      have HA := Aside0.mk (fun h => idxS_at g hy HS.out h)
      have HN := Aside0.mk (fun h => takeS_all (p := g) hy HS.out h)
      have HX := Aside0.mk hc
      clear hy hc
      cases hs : g y with
      | true =>
        have HT := Aside0.mk hs
        have HI := Aside0.mk (HA.out hs)
        clear hs
        go_wp2_with (first
          | (with_reducible refine load_S (.tmp 14) rfl rfl (p := ad.add (i * 39)) rfl HX.out ?_)
          | (go_at_call 31; (with_reducible refine (find1_any y ⟨b, 0, none⟩ d _ (blk_cell (blk_below HP.out HB.out) 0) (blk_lt (blk_below HP.out HB.out))).mono ?_); rw [← congrFun HG.out y, HT.out]; rintro e w1 ⟨rfl, hb⟩; have HB := Aside0.mk (below_step HB.out hb); clear hb))
        go_ret
        exact ⟨by rw [HI.out]; rfl, HB.out⟩
      | false =>
        have HT := Aside0.mk hs
        have HI := Aside0.mk (HN.out hs)
        clear hs
        go_wp2_with (first
          | (with_reducible refine load_S (.tmp 14) rfl rfl (p := ad.add (i * 39)) rfl HX.out ?_)
          | (go_at_call 31; (with_reducible refine (find1_any y ⟨b, 0, none⟩ d _ (blk_cell (blk_below HP.out HB.out) 0) (blk_lt (blk_below HP.out HB.out))).mono ?_); rw [← congrFun HG.out y, HT.out]; rintro e w1 ⟨rfl, hb⟩; have HB := Aside0.mk (below_step HB.out hb); clear hb))
        go_roundw
        case rel => exact ⟨i + 1, by omega, by go_num, HI, HB⟩
        case measure => simp [intOf]; omega
    · obtain rfl : i = l.length := by omega
      go_wp2
      go_ret
      refine ⟨?_, HB.out⟩
      have := HS.out
      rw [List.take_length] at this
      rw [idxS_none _ this]
      rfl
set_option maxHeartbeats 1000000 in
set_option maxRecDepth 100000 in
theorem index_late (idle now : Int) (b b2 : Nat) (l : List Ses) (A : Option Addr) (c : Nat) (W : World) (hr : Kd.C kS W A l.length l) (hp : W.heap[b]? = some (.cells #[.int .i64 idle] 3 (0, 0))) (hq : W.heap[b2]? = some (.cells #[.int .i64 now] 3 (0, 0))) :
    Calls Try.prog 42 #[.slice A l.length c, .func (.func 36) #[] #[.pointer (some ⟨b, 0, none⟩), .pointer (some ⟨b2, 0, none⟩)]] W fun e w' => e = .returned (.int .i64 (idxS (fun x => lateB x idle now) l)) ∧ Below W.heap.size W w' := by
  have hml : l.length ≤ 9223372036854775807 := hr.2.1
  have HC := Aside0.mk hr
  have HB := Aside0.mk (Below.refl W.heap.size W)
  have HP := Aside0.mk hp
  have HQ := Aside0.mk hq
  clear hp hq
  clear hr
  obtain ⟨g, hg⟩ : ∃ g : Ses → Bool, g = fun x => lateB x idle now := ⟨_, rfl⟩
  rw [← hg]
  have HG := Aside0.mk hg
  clear hg
  go_enter Try.func42, Try.ntmps42
  go_wp2
  go_loopw [8] (fun v8 wr => ∃ i : Nat, i ≤ l.length ∧ v8 = .int .i64 i ∧ Aside0 (∀ x ∈ l.take i, g x = false) ∧ Aside0 (Below W.heap.size W wr)) (fun v8 _ => l.length - (intOf v8).toNat)
  case atStart => exact ⟨0, by omega, rfl, ⟨by simp⟩, HB⟩
  case round =>
    clear HB
    obtain ⟨i, hi, rfl, HS, HB⟩ := hrel
    by_cases hlt : i < l.length
    · obtain ⟨y, hy⟩ : ∃ y, l[i]? = some y := ⟨_, List.getElem?_eq_getElem hlt⟩
      obtain ⟨ad, e0, hc, _⟩ := at_S (Kd.C_below HC.out HB.out) i hlt y hy
      subst e0
      have HA := Aside0.mk (fun h => idxS_at g hy HS.out h)
      have HN := Aside0.mk (fun h => takeS_all (p := g) hy HS.out h)
      have HX := Aside0.mk hc
      clear hy hc
      cases hs : g y with
      | true =>
        have HT := Aside0.mk hs
        have HI := Aside0.mk (HA.out hs)
        clear hs
        go_wp2_with (first
          | (with_reducible refine load_S (.tmp 14) rfl rfl (p := ad.add (i * 39)) rfl HX.out ?_)
          | (go_at_call 36; (with_reducible refine (begin1_any y ⟨b, 0, none⟩ ⟨b2, 0, none⟩ idle now _ (blk_cell (blk_below HP.out HB.out) 0) (blk_cell (blk_below HQ.out HB.out) 0) (blk_lt (blk_below HP.out HB.out)) (blk_lt (blk_below HQ.out HB.out))).mono ?_); rw [← congrFun HG.out y, HT.out]; rintro e w1 ⟨rfl, hb⟩; have HB := Aside0.mk (below_step HB.out hb); clear hb))
        go_ret
        exact ⟨by rw [HI.out]; rfl, HB.out⟩
      | false =>
        have HT := Aside0.mk hs
        have HI := Aside0.mk (HN.out hs)
        clear hs
        go_wp2_with (first
          | (with_reducible refine load_S (.tmp 14) rfl rfl (p := ad.add (i * 39)) rfl HX.out ?_)
          | (go_at_call 36; (with_reducible refine (begin1_any y ⟨b, 0, none⟩ ⟨b2, 0, none⟩ idle now _ (blk_cell (blk_below HP.out HB.out) 0) (blk_cell (blk_below HQ.out HB.out) 0) (blk_lt (blk_below HP.out HB.out)) (blk_lt (blk_below HQ.out HB.out))).mono ?_); rw [← congrFun HG.out y, HT.out]; rintro e w1 ⟨rfl, hb⟩; have HB := Aside0.mk (below_step HB.out hb); clear hb))
        go_roundw
        case rel => exact ⟨i + 1, by omega, by go_num, HI, HB⟩
        case measure => simp [intOf]; omega
    · obtain rfl : i = l.length := by omega
      go_wp2
      go_ret
      refine ⟨?_, HB.out⟩
      have := HS.out
      rw [List.take_length] at this
      rw [idxS_none _ this]
      rfl
theorem find0_any (d : Int) (b : Nat) (l : List Ses) (A : Option Addr) (c : Nat) (W : World) (hr : Kd.C kS W A l.length l) (hp : W.heap[b]? = some (.cells #[.int .u64 d] 23 (0, 0))) :
    Calls Try.prog 30 #[.slice A l.length c, .func (.func 31) #[] #[.pointer (some ⟨b, 0, none⟩)]] W fun e w' => e = .returned (.int .i64 (findS l d)) ∧ Below W.heap.size W w' := by
  have HC := Aside0.mk hr
  have HP := Aside0.mk hp
  clear hr hp
  go_enter Try.func30, Try.ntmps30
  go_wp2_with (go_at_call 42; (with_reducible refine (index_find d b l A c _ HC.out HP.out).mono ?_); rintro e w1 ⟨rfl, hb⟩; have HB := Aside0.mk hb; clear hb)
  go_ret
  exact ⟨rfl, HB.out⟩
theorem find_any (d : Int) (l : List Ses) (A : Option Addr) (c : Nat) (W : World) (hr : Kd.C kS W A l.length l) :
    Calls Try.prog 12 #[.slice A l.length c, .int .u64 d] W fun e w' => e = .returned (.int .i64 (findS l d)) ∧ Below W.heap.size W w' := by
  have HB := Aside0.mk (below_alloc (Below.refl W.heap.size W) (.cells #[.int .u64 d] 23))
  have HC := Aside0.mk (Kd.C_below hr HB.out)
  have HP := Aside0.mk (blk_new W (.cells #[.int .u64 d] 23))
  clear hr
  go_enter Try.func12, Try.ntmps12
  go_wp2_with (go_at_call 30; (with_reducible refine (find0_any d W.heap.size l A c _ HC.out HP.out).mono ?_); rintro e w1 ⟨rfl, hb⟩; have HB := Aside0.mk (below_step HB.out hb); clear hb)
  go_ret
  exact ⟨rfl, HB.out⟩
set_option maxHeartbeats 1000000 in
set_option maxRecDepth 100000 in
theorem rfind_any (d : Int) (l : List Ses) (A : Option Addr) (c : Nat) (W : World) (hr : Kd.C kS W A l.length l) :
    Calls Try.prog 26 #[.slice A l.length c, .int .u64 d] W fun e w' => e = .returned (.int .i64 (findS l d)) ∧ W = w' := by
  have hml : l.length ≤ 9223372036854775807 := hr.2.1
  have HC := Aside0.mk hr
  clear hr
  obtain ⟨g, hg⟩ : ∃ g : Ses → Bool, g = fun x => x.draw == d := ⟨_, rfl⟩
  have hf : findS l d = idxS g l := by rw [hg]; rfl
  rw [hf]
  have HG := Aside0.mk hg
  clear hg hf
  go_enter Try.func26, Try.ntmps26
  go_wp2
  go_loop [5] (fun v5 => ∃ i : Nat, i ≤ l.length ∧ v5 = .int .i64 i ∧ Aside0 (∀ x ∈ l.take i, g x = false)) (fun v5 => l.length - (intOf v5).toNat)
  case atStart => exact ⟨0, by omega, rfl, ⟨by simp⟩⟩
  case round =>
    obtain ⟨i, hi, rfl, HS⟩ := hrel
    by_cases hlt : i < l.length
    · obtain ⟨y, hy⟩ : ∃ y, l[i]? = some y := ⟨_, List.getElem?_eq_getElem hlt⟩
      obtain ⟨ad, e0, hc, _, _, x2, _⟩ := at_S HC.out i hlt y hy
      subst e0
      have HA := Aside0.mk (fun h => idxS_at g hy HS.out h)
      have HN := Aside0.mk (fun h => takeS_all (p := g) hy HS.out h)
      clear hy hc
      have hgy : g y = (y.draw == d) := congrFun HG.out y
      cases hs : g y with
      | true =>
        have HI := Aside0.mk (HA.out hs)
        have ht : (y.draw == d) = true := by rw [← hgy]; exact hs
        clear hs hgy
        go_wp2
        go_ret
        exact ⟨by rw [HI.out]; rfl, rfl⟩
      | false =>
        have HI := Aside0.mk (HN.out hs)
        have ht : (y.draw == d) = false := by rw [← hgy]; exact hs
        clear hs hgy
        go_wp2
        go_round
        case rel => exact ⟨i + 1, by omega, by go_num, HI⟩
        case measure => simp [intOf]; omega
    · obtain rfl : i = l.length := by omega
      go_wp2
      go_ret
      refine ⟨?_, rfl⟩
      have := HS.out
      rw [List.take_length] at this
      rw [idxS_none _ this]
      rfl
end Go.Proofs.Ytmhphkclgdaajaa.P
