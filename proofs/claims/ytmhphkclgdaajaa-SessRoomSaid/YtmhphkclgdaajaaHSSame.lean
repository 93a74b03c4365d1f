/- Rows of sessions compared: slices.Equal, sess.Same, pelicanref18.Same. Printed by gensame.py. -/
import Derived.Test.YtmhphkclgdaajaaHSClone
namespace Go.Proofs.Ytmhphkclgdaajaa.P
open Go.RowKit Go.Lib Go.Proofs.YtmhphkclgdaajaaW.PrintWords Go.Proofs.YtmhphkclgdaajaaW.PrintLast Go.Proofs.YtmhphkclgdaajaaW.PrintMore
set_option linter.unusedVariables false
set_option linter.unusedSimpArgs false
theorem eqg_ses : Try.prog.eqGuardType Try.prog.depth 35 = false := by kernel_rfl
theorem take_more {l k : List Ses} {i : Nat} {x : Ses} (h : l.take i = k.take i) (hx : l[i]? = some x) (hy : k[i]? = some x) : l.take (i + 1) = k.take (i + 1) := by
  rw [List.take_add_one, List.take_add_one, h, hx, hy]
theorem take_not {l k : List Ses} {i : Nat} {x y : Ses} (hx : l[i]? = some x) (hy : k[i]? = some y) (h : x ≠ y) : l ≠ k := by
  rintro rfl
  rw [hx] at hy
  exact h (Option.some.inj hy)
theorem drew_cells {w : World} {p : Addr} {x : Ses} (h : ∀ j v, (scl x)[j]? = some v → w.cell? (p.add j) = some v) : ∀ j v, (scl x)[j]? = some v → w.drew.cell? (p.add j) = some v := h
set_option maxHeartbeats 2000000 in
set_option maxRecDepth 100000 in
theorem equal_any (l k : List Ses) (A B : Option Addr) (c d : Nat) (W : World) (hr : Kd.C kS W A l.length l) (hs : Kd.C kS W B k.length k) :
    Calls Try.prog 41 #[.slice A l.length c, .slice B k.length d] W fun e w' => e = .returned (.bool (decide (l = k))) ∧ Below W.heap.size W w' := by
  have hml : l.length ≤ 9223372036854775807 := hr.2.1
  have HC := Aside0.mk hr
  have HD := Aside0.mk hs
  have HB := Aside0.mk (Below.refl W.heap.size W)
  clear hr hs
  have hg := eqg_ses
  by_cases hlen : l.length = k.length
  · have HLEN := Aside0.mk hlen
    have hl2 : (decide ((l.length : Int) = (k.length : Int))) = true := by simp [hlen]
    have hl3 : ((l.length : Int) == (k.length : Int)) = true := by simp [hlen]
    clear hlen
    go_enter Try.func41, Try.ntmps41
    go_wp2
    go_loopw [13] (fun v wr => ∃ i : Nat, i ≤ l.length ∧ v = .int .i64 i ∧ Aside0 (l.take i = k.take i) ∧ Aside0 (Below W.heap.size W wr)) (fun v _ => l.length - (intOf v).toNat)
    case atStart => exact ⟨0, by omega, rfl, ⟨rfl⟩, HB⟩
    case round =>
      clear HB
      obtain ⟨i, hi, rfl, HS, HB⟩ := hrel
      obtain ⟨wo, rfl⟩ : ∃ wo : World, wo = wr := ⟨_, rfl⟩
      by_cases hlt : i < l.length
      · have hlt2 : i < k.length := by rw [← HLEN.out]; exact hlt
        obtain ⟨x, hx⟩ : ∃ x, l[i]? = some x := ⟨_, List.getElem?_eq_getElem hlt⟩
        obtain ⟨y, hy⟩ : ∃ y, k[i]? = some y := ⟨_, List.getElem?_eq_getElem hlt2⟩
        obtain ⟨ax, e0, hc, _⟩ := at_S (Kd.C_below HC.out HB.out) i hlt x hx
        obtain ⟨ay, e1, hd, _⟩ := at_S (Kd.C_below HD.out HB.out) i hlt2 y hy
        subst e0 e1
        have HX := Aside0.mk hc
        have HY := Aside0.mk hd
        have H1 := Aside0.mk hx
        have H2 := Aside0.mk hy
        clear hc hd hx hy
        by_cases hxy : x = y
        · subst hxy
          have HT := Aside0.mk (take_more HS.out H1.out H2.out)
          have n1 := fun w => neq_ses w x x
          rw [decide_eq_true rfl] at n1
          clear hl2 hl3
          go_wp2
          refine start_ (n := 9) (S := fun w' => (∀ j v, (scl x)[j]? = some v → w'.cell? ((ax.add (i * 39)).add j) = some v) ∧ (∀ j v, (scl x)[j]? = some v → w'.cell? ((ay.add (i * 39)).add j) = some v)) (ds := []) #[false, false, false, false, false, false, false, false, false] (by kernel_rfl) rfl rfl ⟨drew_cells HX.out, drew_cells HY.out⟩ (fun hHeld => ?_)
          refine pure_ (i := 0) (N := some 16) (v := ?_) (a' := ?_) #[true, false, false, false, false, false, false, false, false] rfl rfl (by kernel_rfl) (fun _ _ _ h => h) (Or.inl ⟨by rfl, ?_⟩) ?_ ?_
          rotate_left
          · intro w'
            go_simp
            with_reducible rfl
          rotate_left
          · simp only [Act.put, List.setIfInBounds_toArray, List.set_cons_zero, List.set_cons_succ, i64_w, i32_w]
            rfl
          refine pure_ (i := 1) (N := some 17) (v := ?_) (a' := ?_) #[true, true, false, false, false, false, false, false, false] rfl rfl (by kernel_rfl) (fun _ _ _ h => h) (Or.inl ⟨by rfl, ?_⟩) ?_ ?_
          rotate_left
          · intro w'
            go_simp
            with_reducible rfl
          rotate_left
          · simp only [Act.put, List.setIfInBounds_toArray, List.set_cons_zero, List.set_cons_succ, i64_w, i32_w]
            rfl
          refine pure_ (i := 2) (N := some 18) (v := ?_) (a' := ?_) #[true, true, true, false, false, false, false, false, false] rfl rfl (by kernel_rfl) (fun _ _ _ h => h) (Or.inl ⟨by rfl, ?_⟩) ?_ ?_
          rotate_left
          · intro w'
            go_simp
            with_reducible rfl
          rotate_left
          · simp only [Act.put, List.setIfInBounds_toArray, List.set_cons_zero, List.set_cons_succ, i64_w, i32_w]
            rfl
          refine pure_ (i := 4) (N := some 20) (v := ?_) (a' := ?_) #[true, true, true, false, true, false, false, false, false] rfl rfl (by kernel_rfl) (fun _ _ _ h => h) (Or.inl ⟨by rfl, ?_⟩) ?_ ?_
          rotate_left
          · intro w'
            go_simp
            with_reducible rfl
          rotate_left
          · simp only [Act.put, List.setIfInBounds_toArray, List.set_cons_zero, List.set_cons_succ, i64_w, i32_w]
            rfl
          refine pure_ (i := 5) (N := some 21) (v := ?_) (a' := ?_) #[true, true, true, false, true, true, false, false, false] rfl rfl (by kernel_rfl) (fun _ _ _ h => h) (Or.inl ⟨by rfl, ?_⟩) ?_ ?_
          rotate_left
          · intro w'
            go_simp
            with_reducible rfl
          rotate_left
          · simp only [Act.put, List.setIfInBounds_toArray, List.set_cons_zero, List.set_cons_succ, i64_w, i32_w]
            rfl
          refine pure_ (i := 6) (N := some 22) (v := ?_) (a' := ?_) #[true, true, true, false, true, true, true, false, false] rfl rfl (by kernel_rfl) (fun _ _ _ h => h) (Or.inl ⟨by rfl, ?_⟩) ?_ ?_
          rotate_left
          · intro w'
            go_simp
            with_reducible rfl
          rotate_left
          · simp only [Act.put, List.setIfInBounds_toArray, List.set_cons_zero, List.set_cons_succ, i64_w, i32_w]
            rfl
          refine take_ (i := 3) (N := some 19) (v := ?_) (a' := ?_) #[true, true, true, true, true, true, true, false, false] rfl rfl (by kernel_rfl) (fun _ _ _ h => h) (Or.inl ⟨by rfl, ?_⟩) hHeld ?_ ?_
          rotate_left
          · rintro w' ⟨s0, s1⟩
            rw [exec_loadS (.tmp 18) (by rfl) (by rfl) s0]
          rotate_left
          · simp only [Act.put, List.setIfInBounds_toArray, List.set_cons_zero, List.set_cons_succ, i64_w, i32_w]
            rfl
          refine take_ (i := 7) (N := some 23) (v := ?_) (a' := ?_) #[true, true, true, true, true, true, true, true, false] rfl rfl (by kernel_rfl) (fun _ _ _ h => h) (Or.inl ⟨by rfl, ?_⟩) hHeld ?_ ?_
          rotate_left
          · rintro w' ⟨s0, s1⟩
            rw [exec_loadS (.tmp 22) (by rfl) (by rfl) s1]
          rotate_left
          · simp only [Act.put, List.setIfInBounds_toArray, List.set_cons_zero, List.set_cons_succ, i64_w, i32_w]
            rfl
          refine pure_ (i := 8) (N := some 24) (v := ?_) (a' := ?_) #[true, true, true, true, true, true, true, true, true] rfl rfl (by kernel_rfl) (fun _ _ _ h => h) (Or.inl ⟨by rfl, ?_⟩) ?_ ?_
          rotate_left
          · intro w'
            go_simp
            with_reducible rfl
          rotate_left
          · simp only [Act.put, List.setIfInBounds_toArray, List.set_cons_zero, List.set_cons_succ, i64_w, i32_w]
            rfl
          refine done_ (by kernel_rfl) ?_
          have HB1 := Aside0.mk (below_drew HB.out)
          go_wp2
          go_roundw
          case rel => exact ⟨i + 1, by omega, by go_num, HT, HB1⟩
          case measure => simp [intOf]; omega
        · have HT := Aside0.mk (take_not H1.out H2.out hxy)
          have n1 := fun w => neq_ses w x y
          rw [decide_eq_false hxy] at n1
          clear hl2 hl3 hxy
          go_wp2
          refine start_ (n := 9) (S := fun w' => (∀ j v, (scl x)[j]? = some v → w'.cell? ((ax.add (i * 39)).add j) = some v) ∧ (∀ j v, (scl y)[j]? = some v → w'.cell? ((ay.add (i * 39)).add j) = some v)) (ds := []) #[false, false, false, false, false, false, false, false, false] (by kernel_rfl) rfl rfl ⟨drew_cells HX.out, drew_cells HY.out⟩ (fun hHeld => ?_)
          refine pure_ (i := 0) (N := some 16) (v := ?_) (a' := ?_) #[true, false, false, false, false, false, false, false, false] rfl rfl (by kernel_rfl) (fun _ _ _ h => h) (Or.inl ⟨by rfl, ?_⟩) ?_ ?_
          rotate_left
          · intro w'
            go_simp
            with_reducible rfl
          rotate_left
          · simp only [Act.put, List.setIfInBounds_toArray, List.set_cons_zero, List.set_cons_succ, i64_w, i32_w]
            rfl
          refine pure_ (i := 1) (N := some 17) (v := ?_) (a' := ?_) #[true, true, false, false, false, false, false, false, false] rfl rfl (by kernel_rfl) (fun _ _ _ h => h) (Or.inl ⟨by rfl, ?_⟩) ?_ ?_
          rotate_left
          · intro w'
            go_simp
            with_reducible rfl
          rotate_left
          · simp only [Act.put, List.setIfInBounds_toArray, List.set_cons_zero, List.set_cons_succ, i64_w, i32_w]
            rfl
          refine pure_ (i := 2) (N := some 18) (v := ?_) (a' := ?_) #[true, true, true, false, false, false, false, false, false] rfl rfl (by kernel_rfl) (fun _ _ _ h => h) (Or.inl ⟨by rfl, ?_⟩) ?_ ?_
          rotate_left
          · intro w'
            go_simp
            with_reducible rfl
          rotate_left
          · simp only [Act.put, List.setIfInBounds_toArray, List.set_cons_zero, List.set_cons_succ, i64_w, i32_w]
            rfl
          refine pure_ (i := 4) (N := some 20) (v := ?_) (a' := ?_) #[true, true, true, false, true, false, false, false, false] rfl rfl (by kernel_rfl) (fun _ _ _ h => h) (Or.inl ⟨by rfl, ?_⟩) ?_ ?_
          rotate_left
          · intro w'
            go_simp
            with_reducible rfl
          rotate_left
          · simp only [Act.put, List.setIfInBounds_toArray, List.set_cons_zero, List.set_cons_succ, i64_w, i32_w]
            rfl
          refine pure_ (i := 5) (N := some 21) (v := ?_) (a' := ?_) #[true, true, true, false, true, true, false, false, false] rfl rfl (by kernel_rfl) (fun _ _ _ h => h) (Or.inl ⟨by rfl, ?_⟩) ?_ ?_
          rotate_left
          · intro w'
            go_simp
            with_reducible rfl
          rotate_left
          · simp only [Act.put, List.setIfInBounds_toArray, List.set_cons_zero, List.set_cons_succ, i64_w, i32_w]
            rfl
          refine pure_ (i := 6) (N := some 22) (v := ?_) (a' := ?_) #[true, true, true, false, true, true, true, false, false] rfl rfl (by kernel_rfl) (fun _ _ _ h => h) (Or.inl ⟨by rfl, ?_⟩) ?_ ?_
          rotate_left
          · intro w'
            go_simp
            with_reducible rfl
          rotate_left
          · simp only [Act.put, List.setIfInBounds_toArray, List.set_cons_zero, List.set_cons_succ, i64_w, i32_w]
            rfl
          refine take_ (i := 3) (N := some 19) (v := ?_) (a' := ?_) #[true, true, true, true, true, true, true, false, false] rfl rfl (by kernel_rfl) (fun _ _ _ h => h) (Or.inl ⟨by rfl, ?_⟩) hHeld ?_ ?_
          rotate_left
          · rintro w' ⟨s0, s1⟩
            rw [exec_loadS (.tmp 18) (by rfl) (by rfl) s0]
          rotate_left
          · simp only [Act.put, List.setIfInBounds_toArray, List.set_cons_zero, List.set_cons_succ, i64_w, i32_w]
            rfl
          refine take_ (i := 7) (N := some 23) (v := ?_) (a' := ?_) #[true, true, true, true, true, true, true, true, false] rfl rfl (by kernel_rfl) (fun _ _ _ h => h) (Or.inl ⟨by rfl, ?_⟩) hHeld ?_ ?_
          rotate_left
          · rintro w' ⟨s0, s1⟩
            rw [exec_loadS (.tmp 22) (by rfl) (by rfl) s1]
          rotate_left
          · simp only [Act.put, List.setIfInBounds_toArray, List.set_cons_zero, List.set_cons_succ, i64_w, i32_w]
            rfl
          refine pure_ (i := 8) (N := some 24) (v := ?_) (a' := ?_) #[true, true, true, true, true, true, true, true, true] rfl rfl (by kernel_rfl) (fun _ _ _ h => h) (Or.inl ⟨by rfl, ?_⟩) ?_ ?_
          rotate_left
          · intro w'
            go_simp
            with_reducible rfl
          rotate_left
          · simp only [Act.put, List.setIfInBounds_toArray, List.set_cons_zero, List.set_cons_succ, i64_w, i32_w]
            rfl
          refine done_ (by kernel_rfl) ?_
          have HB1 := Aside0.mk (below_drew HB.out)
          go_wp2
          go_ret
          exact ⟨by rw [decide_eq_false HT.out]; rfl, HB1.out⟩
      · obtain rfl : i = l.length := by omega
        go_wp2
        go_ret
        have h1 := HS.out
        have h2 := HLEN.out
        rw [List.take_length, h2, List.take_length] at h1
        exact ⟨by rw [decide_eq_true h1]; rfl, HB.out⟩
  · have hl2 : decide ((l.length : Int) = (k.length : Int)) = false := by simpa using (show ¬ ((l.length : Int) = (k.length : Int)) by omega)
    have hl3 : ((l.length : Int) == (k.length : Int)) = false := by simpa using (show ¬ ((l.length : Int) = (k.length : Int)) by omega)
    have HN := Aside0.mk (show l ≠ k from fun e => hlen (by rw [e]))
    clear hlen
    go_enter Try.func41, Try.ntmps41
    go_wp2
    go_ret
    exact ⟨by rw [decide_eq_false HN.out]; rfl, HB.out⟩
set_option maxHeartbeats 2000000 in
set_option maxRecDepth 100000 in
theorem rsame_any (l k : List Ses) (A B : Option Addr) (c d : Nat) (W : World) (hr : Kd.C kS W A l.length l) (hs : Kd.C kS W B k.length k) :
    Calls Try.prog 22 #[.slice A l.length c, .slice B k.length d] W fun e w' => e = .returned (.bool (decide (l = k))) ∧ Below W.heap.size W w' := by
  have hml : l.length ≤ 9223372036854775807 := hr.2.1
  have HC := Aside0.mk hr
  have HD := Aside0.mk hs
  have HB := Aside0.mk (Below.refl W.heap.size W)
  clear hr hs
  have hg := eqg_ses
  by_cases hlen : l.length = k.length
  · have HLEN := Aside0.mk hlen
    have hl2 : (decide ((l.length : Int) = (k.length : Int))) = true := by simp [hlen]
    have hl3 : ((l.length : Int) == (k.length : Int)) = true := by simp [hlen]
    clear hlen
    go_enter Try.func22, Try.ntmps22
    go_wp2
    go_loopw [5] (fun v wr => ∃ i : Nat, i ≤ l.length ∧ v = .int .i64 i ∧ Aside0 (l.take i = k.take i) ∧ Aside0 (Below W.heap.size W wr)) (fun v _ => l.length - (intOf v).toNat)
    case atStart => exact ⟨0, by omega, rfl, ⟨rfl⟩, HB⟩
    case round =>
      clear HB
      obtain ⟨i, hi, rfl, HS, HB⟩ := hrel
      obtain ⟨wo, rfl⟩ : ∃ wo : World, wo = wr := ⟨_, rfl⟩
      by_cases hlt : i < l.length
      · have hlt2 : i < k.length := by rw [← HLEN.out]; exact hlt
        obtain ⟨x, hx⟩ : ∃ x, l[i]? = some x := ⟨_, List.getElem?_eq_getElem hlt⟩
        obtain ⟨y, hy⟩ : ∃ y, k[i]? = some y := ⟨_, List.getElem?_eq_getElem hlt2⟩
        obtain ⟨ax, e0, hc, _⟩ := at_S (Kd.C_below HC.out HB.out) i hlt x hx
        obtain ⟨ay, e1, hd, _⟩ := at_S (Kd.C_below HD.out HB.out) i hlt2 y hy
        subst e0 e1
        have HX := Aside0.mk hc
        have HY := Aside0.mk hd
        have H1 := Aside0.mk hx
        have H2 := Aside0.mk hy
        clear hc hd hx hy
        by_cases hxy : x = y
        · subst hxy
          have HT := Aside0.mk (take_more HS.out H1.out H2.out)
          have n1 := fun w => neq_ses w x x
          rw [decide_eq_true rfl] at n1
          clear hl2 hl3
          go_wp2
          refine start_ (n := 9) (S := fun w' => (∀ j v, (scl x)[j]? = some v → w'.cell? ((ax.add (i * 39)).add j) = some v) ∧ (∀ j v, (scl x)[j]? = some v → w'.cell? ((ay.add (i * 39)).add j) = some v)) (ds := []) #[false, false, false, false, false, false, false, false, false] (by kernel_rfl) rfl rfl ⟨drew_cells HX.out, drew_cells HY.out⟩ (fun hHeld => ?_)
          refine pure_ (i := 0) (N := some 17) (v := ?_) (a' := ?_) #[true, false, false, false, false, false, false, false, false] rfl rfl (by kernel_rfl) (fun _ _ _ h => h) (Or.inl ⟨by rfl, ?_⟩) ?_ ?_
          rotate_left
          · intro w'
            go_simp
            with_reducible rfl
          rotate_left
          · simp only [Act.put, List.setIfInBounds_toArray, List.set_cons_zero, List.set_cons_succ, i64_w, i32_w]
            rfl
          refine pure_ (i := 1) (N := some 18) (v := ?_) (a' := ?_) #[true, true, false, false, false, false, false, false, false] rfl rfl (by kernel_rfl) (fun _ _ _ h => h) (Or.inl ⟨by rfl, ?_⟩) ?_ ?_
          rotate_left
          · intro w'
            go_simp
            with_reducible rfl
          rotate_left
          · simp only [Act.put, List.setIfInBounds_toArray, List.set_cons_zero, List.set_cons_succ, i64_w, i32_w]
            rfl
          refine pure_ (i := 2) (N := some 19) (v := ?_) (a' := ?_) #[true, true, true, false, false, false, false, false, false] rfl rfl (by kernel_rfl) (fun _ _ _ h => h) (Or.inl ⟨by rfl, ?_⟩) ?_ ?_
          rotate_left
          · intro w'
            go_simp
            with_reducible rfl
          rotate_left
          · simp only [Act.put, List.setIfInBounds_toArray, List.set_cons_zero, List.set_cons_succ, i64_w, i32_w]
            rfl
          refine pure_ (i := 4) (N := some 21) (v := ?_) (a' := ?_) #[true, true, true, false, true, false, false, false, false] rfl rfl (by kernel_rfl) (fun _ _ _ h => h) (Or.inl ⟨by rfl, ?_⟩) ?_ ?_
          rotate_left
          · intro w'
            go_simp
            with_reducible rfl
          rotate_left
          · simp only [Act.put, List.setIfInBounds_toArray, List.set_cons_zero, List.set_cons_succ, i64_w, i32_w]
            rfl
          refine pure_ (i := 5) (N := some 22) (v := ?_) (a' := ?_) #[true, true, true, false, true, true, false, false, false] rfl rfl (by kernel_rfl) (fun _ _ _ h => h) (Or.inl ⟨by rfl, ?_⟩) ?_ ?_
          rotate_left
          · intro w'
            go_simp
            with_reducible rfl
          rotate_left
          · simp only [Act.put, List.setIfInBounds_toArray, List.set_cons_zero, List.set_cons_succ, i64_w, i32_w]
            rfl
          refine pure_ (i := 6) (N := some 23) (v := ?_) (a' := ?_) #[true, true, true, false, true, true, true, false, false] rfl rfl (by kernel_rfl) (fun _ _ _ h => h) (Or.inl ⟨by rfl, ?_⟩) ?_ ?_
          rotate_left
          · intro w'
            go_simp
            with_reducible rfl
          rotate_left
          · simp only [Act.put, List.setIfInBounds_toArray, List.set_cons_zero, List.set_cons_succ, i64_w, i32_w]
            rfl
          refine take_ (i := 3) (N := some 20) (v := ?_) (a' := ?_) #[true, true, true, true, true, true, true, false, false] rfl rfl (by kernel_rfl) (fun _ _ _ h => h) (Or.inl ⟨by rfl, ?_⟩) hHeld ?_ ?_
          rotate_left
          · rintro w' ⟨s0, s1⟩
            rw [exec_loadS (.tmp 19) (by rfl) (by rfl) s0]
          rotate_left
          · simp only [Act.put, List.setIfInBounds_toArray, List.set_cons_zero, List.set_cons_succ, i64_w, i32_w]
            rfl
          refine take_ (i := 7) (N := some 24) (v := ?_) (a' := ?_) #[true, true, true, true, true, true, true, true, false] rfl rfl (by kernel_rfl) (fun _ _ _ h => h) (Or.inl ⟨by rfl, ?_⟩) hHeld ?_ ?_
          rotate_left
          · rintro w' ⟨s0, s1⟩
            rw [exec_loadS (.tmp 23) (by rfl) (by rfl) s1]
          rotate_left
          · simp only [Act.put, List.setIfInBounds_toArray, List.set_cons_zero, List.set_cons_succ, i64_w, i32_w]
            rfl
          refine pure_ (i := 8) (N := some 25) (v := ?_) (a' := ?_) #[true, true, true, true, true, true, true, true, true] rfl rfl (by kernel_rfl) (fun _ _ _ h => h) (Or.inl ⟨by rfl, ?_⟩) ?_ ?_
          rotate_left
          · intro w'
            go_simp
            with_reducible rfl
          rotate_left
          · simp only [Act.put, List.setIfInBounds_toArray, List.set_cons_zero, List.set_cons_succ, i64_w, i32_w]
            rfl
          refine done_ (by kernel_rfl) ?_
          have HB1 := Aside0.mk (below_drew HB.out)
          go_wp2
          go_roundw
          case rel => exact ⟨i + 1, by omega, by go_num, HT, HB1⟩
          case measure => simp [intOf]; omega
        · have HT := Aside0.mk (take_not H1.out H2.out hxy)
          have n1 := fun w => neq_ses w x y
          rw [decide_eq_false hxy] at n1
          clear hl2 hl3 hxy
          go_wp2
          refine start_ (n := 9) (S := fun w' => (∀ j v, (scl x)[j]? = some v → w'.cell? ((ax.add (i * 39)).add j) = some v) ∧ (∀ j v, (scl y)[j]? = some v → w'.cell? ((ay.add (i * 39)).add j) = some v)) (ds := []) #[false, false, false, false, false, false, false, false, false] (by kernel_rfl) rfl rfl ⟨drew_cells HX.out, drew_cells HY.out⟩ (fun hHeld => ?_)
          refine pure_ (i := 0) (N := some 17) (v := ?_) (a' := ?_) #[true, false, false, false, false, false, false, false, false] rfl rfl (by kernel_rfl) (fun _ _ _ h => h) (Or.inl ⟨by rfl, ?_⟩) ?_ ?_
          rotate_left
          · intro w'
            go_simp
            with_reducible rfl
          rotate_left
          · simp only [Act.put, List.setIfInBounds_toArray, List.set_cons_zero, List.set_cons_succ, i64_w, i32_w]
            rfl
          refine pure_ (i := 1) (N := some 18) (v := ?_) (a' := ?_) #[true, true, false, false, false, false, false, false, false] rfl rfl (by kernel_rfl) (fun _ _ _ h => h) (Or.inl ⟨by rfl, ?_⟩) ?_ ?_
          rotate_left
          · intro w'
            go_simp
            with_reducible rfl
          rotate_left
          · simp only [Act.put, List.setIfInBounds_toArray, List.set_cons_zero, List.set_cons_succ, i64_w, i32_w]
            rfl
          refine pure_ (i := 2) (N := some 19) (v := ?_) (a' := ?_) #[true, true, true, false, false, false, false, false, false] rfl rfl (by kernel_rfl) (fun _ _ _ h => h) (Or.inl ⟨by rfl, ?_⟩) ?_ ?_
          rotate_left
          · intro w'
            go_simp
            with_reducible rfl
          rotate_left
          · simp only [Act.put, List.setIfInBounds_toArray, List.set_cons_zero, List.set_cons_succ, i64_w, i32_w]
            rfl
          refine pure_ (i := 4) (N := some 21) (v := ?_) (a' := ?_) #[true, true, true, false, true, false, false, false, false] rfl rfl (by kernel_rfl) (fun _ _ _ h => h) (Or.inl ⟨by rfl, ?_⟩) ?_ ?_
          rotate_left
          · intro w'
            go_simp
            with_reducible rfl
          rotate_left
          · simp only [Act.put, List.setIfInBounds_toArray, List.set_cons_zero, List.set_cons_succ, i64_w, i32_w]
            rfl
          refine pure_ (i := 5) (N := some 22) (v := ?_) (a' := ?_) #[true, true, true, false, true, true, false, false, false] rfl rfl (by kernel_rfl) (fun _ _ _ h => h) (Or.inl ⟨by rfl, ?_⟩) ?_ ?_
          rotate_left
          · intro w'
            go_simp
            with_reducible rfl
          rotate_left
          · simp only [Act.put, List.setIfInBounds_toArray, List.set_cons_zero, List.set_cons_succ, i64_w, i32_w]
            rfl
          refine pure_ (i := 6) (N := some 23) (v := ?_) (a' := ?_) #[true, true, true, false, true, true, true, false, false] rfl rfl (by kernel_rfl) (fun _ _ _ h => h) (Or.inl ⟨by rfl, ?_⟩) ?_ ?_
          rotate_left
          · intro w'
            go_simp
            with_reducible rfl
          rotate_left
          · simp only [Act.put, List.setIfInBounds_toArray, List.set_cons_zero, List.set_cons_succ, i64_w, i32_w]
            rfl
          refine take_ (i := 3) (N := some 20) (v := ?_) (a' := ?_) #[true, true, true, true, true, true, true, false, false] rfl rfl (by kernel_rfl) (fun _ _ _ h => h) (Or.inl ⟨by rfl, ?_⟩) hHeld ?_ ?_
          rotate_left
          · rintro w' ⟨s0, s1⟩
            rw [exec_loadS (.tmp 19) (by rfl) (by rfl) s0]
          rotate_left
          · simp only [Act.put, List.setIfInBounds_toArray, List.set_cons_zero, List.set_cons_succ, i64_w, i32_w]
            rfl
          refine take_ (i := 7) (N := some 24) (v := ?_) (a' := ?_) #[true, true, true, true, true, true, true, true, false] rfl rfl (by kernel_rfl) (fun _ _ _ h => h) (Or.inl ⟨by rfl, ?_⟩) hHeld ?_ ?_
          rotate_left
          · rintro w' ⟨s0, s1⟩
            rw [exec_loadS (.tmp 23) (by rfl) (by rfl) s1]
          rotate_left
          · simp only [Act.put, List.setIfInBounds_toArray, List.set_cons_zero, List.set_cons_succ, i64_w, i32_w]
            rfl
          refine pure_ (i := 8) (N := some 25) (v := ?_) (a' := ?_) #[true, true, true, true, true, true, true, true, true] rfl rfl (by kernel_rfl) (fun _ _ _ h => h) (Or.inl ⟨by rfl, ?_⟩) ?_ ?_
          rotate_left
          · intro w'
            go_simp
            with_reducible rfl
          rotate_left
          · simp only [Act.put, List.setIfInBounds_toArray, List.set_cons_zero, List.set_cons_succ, i64_w, i32_w]
            rfl
          refine done_ (by kernel_rfl) ?_
          have HB1 := Aside0.mk (below_drew HB.out)
          go_wp2
          go_ret
          exact ⟨by rw [decide_eq_false HT.out]; rfl, HB1.out⟩
      · obtain rfl : i = l.length := by omega
        go_wp2
        go_ret
        have h1 := HS.out
        have h2 := HLEN.out
        rw [List.take_length, h2, List.take_length] at h1
        exact ⟨by rw [decide_eq_true h1]; rfl, HB.out⟩
  · have hl2 : decide ((l.length : Int) = (k.length : Int)) = false := by simpa using (show ¬ ((l.length : Int) = (k.length : Int)) by omega)
    have hl3 : ((l.length : Int) == (k.length : Int)) = false := by simpa using (show ¬ ((l.length : Int) = (k.length : Int)) by omega)
    have HN := Aside0.mk (show l ≠ k from fun e => hlen (by rw [e]))
    clear hlen
    go_enter Try.func22, Try.ntmps22
    go_wp2
    go_ret
    exact ⟨by rw [decide_eq_false HN.out]; rfl, HB.out⟩
theorem same_any (l k : List Ses) (A B : Option Addr) (c d : Nat) (W : World) (hr : Kd.C kS W A l.length l) (hs : Kd.C kS W B k.length k) :
    Calls Try.prog 25 #[.slice A l.length c, .slice B k.length d] W fun e w' => e = .returned (.bool (decide (l = k))) ∧ Below W.heap.size W w' := by
  have HC := Aside0.mk hr
  have HD := Aside0.mk hs
  clear hr hs
  go_enter Try.func25, Try.ntmps25
  go_wp2_with (go_at_call 41; (with_reducible refine (equal_any l k A B c d _ HC.out HD.out).mono ?_); rintro e w1 ⟨rfl, hb⟩; have HB := Aside0.mk hb; clear hb)
  go_ret
  exact ⟨rfl, HB.out⟩
end Go.Proofs.Ytmhphkclgdaajaa.P
