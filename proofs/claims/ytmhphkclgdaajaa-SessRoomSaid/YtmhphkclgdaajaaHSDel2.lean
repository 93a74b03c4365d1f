/- slices.Delete of sessions, pelicanref18.without, sess.Drop, pelicanref18.Drop. Printed by gendel.py. -/
import Derived.Test.YtmhphkclgdaajaaHSDel
namespace Go.Proofs.Ytmhphkclgdaajaa.P
open Go.RowKit Go.Lib Go.Proofs.YtmhphkclgdaajaaW.PrintWords Go.Proofs.YtmhphkclgdaajaaW.PrintLast Go.Proofs.YtmhphkclgdaajaaW.PrintMore
set_option linter.unusedVariables false
set_option linter.unusedSimpArgs false
section
variable {ops : Array Oper} {rest : List Oper} {o : Oper} {a : Act} {Q : Exit → Act → World → Prop}
theorem clear_S {W w0 : World} {base g n c k m c2 off : Nat} {xs : List Ses} {ok : Nat → Prop} (x : Operand) (ho : o.op = .call { callee := .builtin .clear, args := #[x], argTypes := #[22] }) (hgd : o.guard = none) (hN : o.dst = none)
    (hx : a.eval x = .slice (some ⟨g, off, none⟩) m c2) (hoff : off = k * 39) (HO : kS.R 35 W base ok (.slice (some ⟨g, 0, none⟩) n c) xs) (hk : n ≤ k) (hm : k + m ≤ c) (HB : Below base w0 W)
    (h : ∀ w1, kS.R 35 w1 base ok (.slice (some ⟨g, 0, none⟩) n c) xs → Below base w0 w1 → wpList Try.prog ops Q rest a w1) : wpList Try.prog ops Q (o :: rest) a W := by
  subst hoff
  obtain ⟨w1, hr, h1, h2⟩ := clear_run (ty := o.type) (c2 := c2) HO hk hm HB
  refine wpList_plain hgd (fun K hK => ?_)
  unfold Oper.wp execOp
  simp only [ho, resolve, invoke, builtin, Sem.run_bind, Sem.run_pure, Result.andThen_ok, List.map_toArray, List.map_cons, List.map_nil, hx, hr]
  have h3 := hK _ _ (h w1 h1 h2)
  have e : a.put o.dst (.tuple #[]) = a := by rw [hN]; rfl
  show K (a.put o.dst (.tuple #[])) w1
  rw [e]
  exact h3
end
theorem cut_midS (A : Option Addr) (n c : Nat) (lo hi' : Nat) (h1 : lo ≤ hi') (h2 : hi' ≤ c) :
    ∀ W : World, (Instr.slice 22 (.slice A n c) (some (.int .i64 lo)) (some (.int .i64 hi')) none).run Try.prog W = .ok (.slice (if c = lo then A else A.map (·.add (lo * 39))) (hi' - lo) (c - lo)) W := by
  intro W
  obtain ⟨i0, hi0, hzz⟩ := Option.map_eq_some_iff.1 infoZ
  simp only [Prod.mk.injEq] at hzz
  obtain ⟨_, hz1, _⟩ := hzz
  have hel : Try.prog.elem 22 = 35 := by simp [Program.elem, Try.underlying22]
  have hu : Try.prog.underlying 22 = some (.slice (Try.prog.elem 22)) := by rw [hel]; exact Try.underlying22
  rw [run_slice_lh W 22 A n c hu .i64 .i64 lo hi' (by omega) (by omega) (by omega), hel]
  simp [sizeOf, typeInfo, hi0, hz1, sliced, Result.andThen]
theorem cut_3S (A : Option Addr) (n c : Nat) (lo hi' m : Nat) (h1 : lo ≤ hi') (h2 : hi' ≤ m) (h3 : m ≤ c) :
    ∀ W : World, (Instr.slice 22 (.slice A n c) (some (.int .i64 lo)) (some (.int .i64 hi')) (some (.int .i64 m))).run Try.prog W = .ok (.slice (if m = lo then A else A.map (·.add (lo * 39))) (hi' - lo) (m - lo)) W := by
  intro W
  obtain ⟨i0, hi0, hzz⟩ := Option.map_eq_some_iff.1 infoZ
  simp only [Prod.mk.injEq] at hzz
  obtain ⟨_, hz1, _⟩ := hzz
  have hel : Try.prog.elem 22 = 35 := by simp [Program.elem, Try.underlying22]
  have hu : Try.prog.underlying 22 = some (.slice (Try.prog.elem 22)) := by rw [hel]; exact Try.underlying22
  rw [run_slice_lhm W 22 A n c hu .i64 .i64 .i64 lo hi' m (by omega) (by omega) (by omega) (by omega), hel]
  simp [sizeOf, typeInfo, hi0, hz1, sliced, Result.andThen]
theorem cut_fromS (A : Option Addr) (n c lo : Nat) (h1 : lo ≤ n) :
    ∀ W : World, (Instr.slice 22 (.slice A n c) (some (.int .i64 lo)) none none).run Try.prog W = .ok (.slice (if c = lo then A else A.map (·.add (lo * 39))) (n - lo) (c - lo)) W := by
  obtain ⟨i0, hi0, hzz⟩ := Option.map_eq_some_iff.1 infoZ
  simp only [Prod.mk.injEq] at hzz
  obtain ⟨_, hz1, _⟩ := hzz
  exact cut_from 22 35 .i64 Try.underlying22 hi0 39 hz1 A n c lo (by omega) (by omega)
set_option maxHeartbeats 2000000 in
set_option maxRecDepth 100000 in
theorem delete_any (i : Nat) (l : List Ses) (g cap base : Nat) (W : World) (HO0 : kS.R 35 W base (fun _ => True) (.slice (some ⟨g, 0, none⟩) l.length cap) l) (hi : i < l.length) (hb : base ≤ W.heap.size) :
    Calls Try.prog 29 #[.slice (some ⟨g, 0, none⟩) l.length cap, .int .i64 i, .int .i64 ((i : Int) + 1)] W fun e w' => e = .returned (.slice (some ⟨g, 0, none⟩) (l.length - 1) cap) ∧ kS.R 35 w' base (fun _ => True) (.slice (some ⟨g, 0, none⟩) (l.length - 1) cap) (l.eraseIdx i) ∧ Below base W w' := by
  have hcap : l.length ≤ cap := (Kd.R_reads' HO0).2.1
  have hml : cap ≤ 9223372036854775807 := by
    obtain ⟨_, inner, ⟨_, hor⟩, _⟩ := HO0
    rcases hor with ⟨hv, _⟩ | ⟨g', cap', cur, hv, _, _, _, hcap', _⟩
    · simp at hv
    · injection hv with _ _ hv3
      subst hv3
      exact hcap'
  have HO := Aside0.mk HO0
  have HI := Aside0.mk hi
  have HBS := Aside0.mk hb
  have HB := Aside0.mk (Below.refl base W)
  have hnl : ¬ l.length = i := by omega
  have hne : ((i : Int) == (i : Int) + 1) = false := by
    have : ¬ ((i : Int) = (i : Int) + 1) := by omega
    simpa using this
  have hj : ((i + 1 : Nat) : Int) = (i : Int) + 1 := by omega
  have c1 := cut_toS (some ⟨g, 0, none⟩) l.length cap i (by omega) hcap
  have c2 := cut_fromS (some ⟨g, 0, none⟩) l.length cap (i + 1) hi
  have c3 := cut_midS (some ⟨g, 0, none⟩) (l.length - 1) cap (l.length - 1) l.length (by omega) hcap
  have c4 := cut_3S (some ⟨g, 0, none⟩) l.length cap i (i + 1) l.length (by omega) hi hcap
  rw [hj] at c2 c4
  obtain ⟨A2, hA2⟩ : ∃ A2, A2 = if cap = i + 1 then some ⟨g, 0, none⟩ else (some (⟨g, 0, none⟩ : Addr)).map (·.add ((i + 1) * 39)) := ⟨_, rfl⟩
  rw [← hA2] at c2
  have HA := Aside0.mk (show A2 = if cap = i + 1 then some ⟨g, 0, none⟩ else (some (⟨g, 0, none⟩ : Addr)).map (·.add ((i + 1) * kS.sz)) from hA2)
  clear hA2
  rw [if_neg (by omega)] at c3
  clear hj HO0 hi hb
  have C2 := c2
  clear C2
  go_enter Try.func29, Try.ntmps29
  go_wp2
  have HOd := Aside0.mk (Kd.R_drew HO.out)
  have HBd := Aside0.mk (below_drew HB.out)
  refine start_ (n := 8) (S := fun w' => True) (ds := []) #[false, false, false, false, false, false, false, false] (by kernel_rfl) rfl rfl trivial (fun hHeld => ?_)
  refine pure_ (i := 0) (N := some 20) (v := ?_) (a' := ?_) #[true, false, false, false, false, false, false, false] rfl rfl (by kernel_rfl) (fun _ _ _ h => h) (Or.inl ⟨by rfl, ?_⟩) ?_ ?_
  rotate_left
  · intro w'
    go_simp
    with_reducible rfl
  rotate_left
  · simp only [Act.put, List.setIfInBounds_toArray, List.set_cons_zero, List.set_cons_succ, i64_w, i32_w]
    rfl
  refine pure_ (i := 1) (N := some 21) (v := ?_) (a' := ?_) #[true, true, false, false, false, false, false, false] rfl rfl (by kernel_rfl) (fun _ _ _ h => h) (Or.inl ⟨by rfl, ?_⟩) ?_ ?_
  rotate_left
  · intro w'
    go_simp
    with_reducible rfl
  rotate_left
  · simp only [Act.put, List.setIfInBounds_toArray, List.set_cons_zero, List.set_cons_succ, i64_w, i32_w]
    rfl
  refine pure_ (i := 2) (N := some 22) (v := ?_) (a' := ?_) #[true, true, true, false, false, false, false, false] rfl rfl (by kernel_rfl) (fun _ _ _ h => h) (Or.inl ⟨by rfl, ?_⟩) ?_ ?_
  rotate_left
  · intro w'
    go_simp
    with_reducible rfl
  rotate_left
  · simp only [Act.put, List.setIfInBounds_toArray, List.set_cons_zero, List.set_cons_succ, i64_w, i32_w]
    rfl
  refine pure_ (i := 3) (N := some 23) (v := ?_) (a' := ?_) #[true, true, true, true, false, false, false, false] rfl rfl (by kernel_rfl) (fun _ _ _ h => h) (Or.inl ⟨by rfl, ?_⟩) ?_ ?_
  rotate_left
  · intro w'
    go_simp
    with_reducible rfl
  rotate_left
  · simp only [Act.put, List.setIfInBounds_toArray, List.set_cons_zero, List.set_cons_succ, i64_w, i32_w]
    rfl
  refine pure_ (i := 4) (N := some 24) (v := ?_) (a' := ?_) #[true, true, true, true, true, false, false, false] rfl rfl (by kernel_rfl) (fun _ _ _ h => h) (Or.inl ⟨by rfl, ?_⟩) ?_ ?_
  rotate_left
  · intro w'
    go_simp
    with_reducible rfl
  rotate_left
  · simp only [Act.put, List.setIfInBounds_toArray, List.set_cons_zero, List.set_cons_succ, i64_w, i32_w]
    rfl
  refine pure_ (i := 5) (N := some 25) (v := ?_) (a' := ?_) #[true, true, true, true, true, true, false, false] rfl rfl (by kernel_rfl) (fun _ _ _ h => h) (Or.inl ⟨by rfl, ?_⟩) ?_ ?_
  rotate_left
  · intro w'
    go_simp
    with_reducible rfl
  rotate_left
  · simp only [Act.put, List.setIfInBounds_toArray, List.set_cons_zero, List.set_cons_succ, i64_w, i32_w]
    rfl
  refine one_ (i := 6) (N := some 26) #[true, true, true, true, true, true, true, false] rfl rfl (by kernel_rfl) (by decide) (fun K hK => ?_)
  refine Kd.R_delete_step kS (w0 := W) base (by rfl) (.tmp 22) (.tmp 25) 22 35 rfl Try.underlying22 infoS (g := g) (n := l.length) (c := cap) (k := i) (m := l.length - (i + 1)) (c2 := cap - (i + 1)) (xs := l) (ok := fun _ => True) rfl rfl HA.out rfl HOd.out HI.out HBd.out HBS.out ?_
  intro w1 ho hb hg
  have HO1 := Aside0.mk ho
  have HB1 := Aside0.mk hb
  clear ho hb hg
  refine hK.out _ _ trivial (fun hHeld => ?_)
  clear hK K
  refine norm_ (a' := ?_) ?_ ?_
  rotate_left
  · show Act.put _ (some 26) _ = _
    simp only [Act.put, List.setIfInBounds_toArray, List.set_cons_zero, List.set_cons_succ, i64_w, i32_w]
    rfl
  refine pure_ (i := 7) (N := some 0) (v := ?_) (a' := ?_) #[true, true, true, true, true, true, true, true] rfl rfl (by kernel_rfl) (fun _ _ _ h => h) (Or.inl ⟨by rfl, ?_⟩) ?_ ?_
  rotate_left
  · intro w'
    go_simp
    with_reducible rfl
  rotate_left
  · simp only [Act.put, List.setIfInBounds_toArray, List.set_cons_zero, List.set_cons_succ, i64_w, i32_w]
    rfl
  refine done_ (by kernel_rfl) ?_
  have HL := Aside0.mk (show (l.eraseIdx i).length = l.length - 1 from List.length_eraseIdx_of_lt HI.out)
  go_wp2_with (with_reducible refine clear_S (.tmp 31) rfl rfl rfl (k := l.length - 1) rfl rfl HO1.out (Nat.le_refl _) (by have := HI.out; omega) HB1.out ?_; intro w2 ho hb_; have HO2 := Aside0.mk ho; have HB2 := Aside0.mk hb_; clear ho hb_)
  go_ret
  exact ⟨rfl, HO2.out, HB2.out⟩
end Go.Proofs.Ytmhphkclgdaajaa.P
