/- By hand: pelicanref09.Sync, Cut, Crash, Write. -/
import Derived.Test.YtlldfihhdbbicaaHStore
import Derived.Test.YtlldfihhdbbicaaPx9
namespace Go.Proofs.Ytlldfihhdbbicaa.P
open Go.RowKit Go.Lib Go.Proofs.YtlldfihhdbbicaaW.PrintWords Go.Proofs.YtlldfihhdbbicaaW.PrintLast Go.Proofs.YtlldfihhdbbicaaW.PrintMore
set_option linter.unusedVariables false
set_option linter.unusedSimpArgs false
/-- A store and why not, told to be read. -/
def Told (w w' : World) (e : Ending) (r1 : Int) (r2 : List Int) (r3 r4 : Int) : Prop := ∃ (A : Option Addr) (c : Nat), e = .returned (.tuple #[.agg #[.int .i64 r1, .slice A r2.length c, .int .i64 r3], .int .i64 r4]) ∧ r2.length ≤ c ∧ Kd.C (Kd.int .u8) w' A r2.length r2 ∧ Below w.heap.size w w'
theorem cw64_ {x : Int} (h1 : -9223372036854775808 ≤ x) (h2 : x ≤ 9223372036854775807) : wrap64 x = x := by unfold wrap64; omega
def Told1 (w w' : World) (e : Ending) (r1 : Int) (r2 : List Int) (r3 : Int) : Prop := ∃ (A : Option Addr) (c : Nat), e = .returned (.agg #[.int .i64 r1, .slice A r2.length c, .int .i64 r3]) ∧ r2.length ≤ c ∧ Kd.C (Kd.int .u8) w' A r2.length r2 ∧ Below w.heap.size w w'
set_option maxHeartbeats 4000000 in
set_option maxRecDepth 100000 in
theorem refsync_no (a n : Int) (A : Option Addr) (c : Nat) (l : List Int) (w : World) (hr : Kd.C (Kd.int .u8) w A l.length l) (hc : l.length ≤ c) (hm : pelicanref09_May.f a l n = some false) :
    Calls Try.prog 19 #[.agg #[.int .i64 a, .slice A l.length c, .int .i64 n]] w fun e w' => Told w w' e a l n 1 := by
  have HR := Aside0.mk hr
  have HC := Aside0.mk hc
  have HM := Aside0.mk hm
  clear hr hc hm
  go_enter Try.func19, Try.ntmps19
  go_wp2_with (first | (go_at_call 25; (with_reducible refine (pelicanref09_May.calls a A c l n false _ (Kd.C_alloc (Kd.C_alloc HR.out _) _) HC.out HM.out).mono ?_); rintro e w1 ⟨rfl, hb⟩; obtain ⟨b1, b2⟩ := two_blocks hb; obtain ⟨⟨k0, k1, k2⟩, f0, f1, f2⟩ := cells3 b1; obtain ⟨⟨m0, m1, m2⟩, g0, g1, g2⟩ := cells3 b2; have B1 := Aside0.mk b1; have B2 := Aside0.mk b2; have HB := Aside0.mk (below_step (below_alloc (below_alloc (Below.refl w.heap.size w) (.cells #[.int .i64 a, .slice A l.length c, .int .i64 n] 24)) (.cells #[.int .i64 0, .slice none 0 0, .int .i64 0] 24)) hb); clear hb b1 b2))
  refine bodyPost_ret (results_ct rfl _ _ (w.heap.size + 1) 24 #[.int .i64 a, .slice A l.length c, .int .i64 n] (0, 0) _ rfl (blk_put (blk_put (blk_put B2.out 0 _ rfl) 1 _ rfl) 2 _ rfl) Try.underlying24 rfl (by kernel_rfl)) rfl ⟨A, c, rfl, HC.out, Kd.C_below HR.out ?_, ?_⟩
  all_goals exact below_set (below_set (below_set HB.out (Nat.le_succ _)) (Nat.le_succ _)) (Nat.le_succ _)
set_option maxHeartbeats 4000000 in
set_option maxRecDepth 100000 in
theorem refsync_yes (a n : Int) (A : Option Addr) (c : Nat) (l : List Int) (w : World) (hr : Kd.C (Kd.int .u8) w A l.length l) (hc : l.length ≤ c) (hm : pelicanref09_May.f a l n = some true) :
    Calls Try.prog 19 #[.agg #[.int .i64 a, .slice A l.length c, .int .i64 n]] w fun e w' => Told w w' e a l (l.length : Int) 0 := by
  have HR := Aside0.mk hr
  have HC := Aside0.mk hc
  have HM := Aside0.mk hm
  clear hr hc hm
  go_enter Try.func19, Try.ntmps19
  go_wp2_with (first | (go_at_call 25; (with_reducible refine (pelicanref09_May.calls a A c l n true _ (Kd.C_alloc (Kd.C_alloc HR.out _) _) HC.out HM.out).mono ?_); rintro e w1 ⟨rfl, hb⟩; obtain ⟨b1, b2⟩ := two_blocks hb; obtain ⟨⟨k0, k1, k2⟩, f0, f1, f2⟩ := cells3 b1; obtain ⟨⟨m0, m1, m2⟩, g0, g1, g2⟩ := cells3 b2; have B1 := Aside0.mk b1; have B2 := Aside0.mk b2; have HB := Aside0.mk (below_step (below_alloc (below_alloc (Below.refl w.heap.size w) (.cells #[.int .i64 a, .slice A l.length c, .int .i64 n] 24)) (.cells #[.int .i64 0, .slice none 0 0, .int .i64 0] 24)) hb); clear hb b1 b2))
  refine bodyPost_ret (results_ct rfl _ _ (w.heap.size + 1) 24 #[.int .i64 a, .slice A l.length c, .int .i64 (l.length : Int)] (0, 0) _ rfl (blk_put (blk_put (blk_put B2.out 0 _ rfl) 1 _ rfl) 2 _ rfl) Try.underlying24 rfl (by kernel_rfl)) rfl ⟨A, c, rfl, HC.out, Kd.C_below HR.out ?_, ?_⟩
  all_goals exact below_set (below_set (below_set HB.out (Nat.le_succ _)) (Nat.le_succ _)) (Nat.le_succ _)
set_option maxHeartbeats 4000000 in
set_option maxRecDepth 100000 in
theorem refcut_no (a n : Int) (A : Option Addr) (c : Nat) (l : List Int) (w : World) (hr : Kd.C (Kd.int .u8) w A l.length l) (hc : l.length ≤ c) (x : Int) (b : Bool) (hm : pelicanref09_May.f a l n = some b) (hx : b = false ∨ x < 0 ∨ (l.length : Int) < x) :
    Calls Try.prog 20 #[.agg #[.int .i64 a, .slice A l.length c, .int .i64 n], .int .i64 x] w fun e w' => Told w w' e a l n 1 := by
  have HR := Aside0.mk hr
  have HC := Aside0.mk hc
  have HM := Aside0.mk hm
  clear hr hc hm
  go_enter Try.func20, Try.ntmps20
  cases b with
  | false =>
    go_wp2_with (first | (go_at_call 25; (with_reducible refine (pelicanref09_May.calls a A c l n false _ (Kd.C_alloc (Kd.C_alloc HR.out _) _) HC.out HM.out).mono ?_); rintro e w1 ⟨rfl, hb⟩; obtain ⟨b1, b2⟩ := two_blocks hb; obtain ⟨⟨k0, k1, k2⟩, f0, f1, f2⟩ := cells3 b1; obtain ⟨⟨m0, m1, m2⟩, g0, g1, g2⟩ := cells3 b2; have B1 := Aside0.mk b1; have B2 := Aside0.mk b2; have HB := Aside0.mk (below_step (below_alloc (below_alloc (Below.refl w.heap.size w) (.cells #[.int .i64 a, .slice A l.length c, .int .i64 n] 24)) (.cells #[.int .i64 0, .slice none 0 0, .int .i64 0] 24)) hb); clear hb b1 b2))
    refine bodyPost_ret (results_ct rfl _ _ (w.heap.size + 1) 24 #[.int .i64 a, .slice A l.length c, .int .i64 n] (0, 0) _ rfl (blk_put (blk_put (blk_put B2.out 0 _ rfl) 1 _ rfl) 2 _ rfl) Try.underlying24 rfl (by kernel_rfl)) rfl ⟨A, c, rfl, HC.out, Kd.C_below HR.out ?_, ?_⟩
    all_goals exact below_set (below_set (below_set HB.out (Nat.le_succ _)) (Nat.le_succ _)) (Nat.le_succ _)
  | true =>
    rcases hx with hx | hx | hx
    · cases hx
    · go_wp2_with (first | (go_at_call 25; (with_reducible refine (pelicanref09_May.calls a A c l n true _ (Kd.C_alloc (Kd.C_alloc HR.out _) _) HC.out HM.out).mono ?_); rintro e w1 ⟨rfl, hb⟩; obtain ⟨b1, b2⟩ := two_blocks hb; obtain ⟨⟨k0, k1, k2⟩, f0, f1, f2⟩ := cells3 b1; obtain ⟨⟨m0, m1, m2⟩, g0, g1, g2⟩ := cells3 b2; have B1 := Aside0.mk b1; have B2 := Aside0.mk b2; have HB := Aside0.mk (below_step (below_alloc (below_alloc (Below.refl w.heap.size w) (.cells #[.int .i64 a, .slice A l.length c, .int .i64 n] 24)) (.cells #[.int .i64 0, .slice none 0 0, .int .i64 0] 24)) hb); clear hb b1 b2))
      refine bodyPost_ret (results_ct rfl _ _ (w.heap.size + 1) 24 #[.int .i64 a, .slice A l.length c, .int .i64 n] (0, 0) _ rfl (blk_put (blk_put (blk_put B2.out 0 _ rfl) 1 _ rfl) 2 _ rfl) Try.underlying24 rfl (by kernel_rfl)) rfl ⟨A, c, rfl, HC.out, Kd.C_below HR.out ?_, ?_⟩
      all_goals exact below_set (below_set (below_set HB.out (Nat.le_succ _)) (Nat.le_succ _)) (Nat.le_succ _)
    · have hx0 : 0 ≤ x := by omega
      go_wp2_with (first | (go_at_call 25; (with_reducible refine (pelicanref09_May.calls a A c l n true _ (Kd.C_alloc (Kd.C_alloc HR.out _) _) HC.out HM.out).mono ?_); rintro e w1 ⟨rfl, hb⟩; obtain ⟨b1, b2⟩ := two_blocks hb; obtain ⟨⟨k0, k1, k2⟩, f0, f1, f2⟩ := cells3 b1; obtain ⟨⟨m0, m1, m2⟩, g0, g1, g2⟩ := cells3 b2; have B1 := Aside0.mk b1; have B2 := Aside0.mk b2; have HB := Aside0.mk (below_step (below_alloc (below_alloc (Below.refl w.heap.size w) (.cells #[.int .i64 a, .slice A l.length c, .int .i64 n] 24)) (.cells #[.int .i64 0, .slice none 0 0, .int .i64 0] 24)) hb); clear hb b1 b2))
      refine bodyPost_ret (results_ct rfl _ _ (w.heap.size + 1) 24 #[.int .i64 a, .slice A l.length c, .int .i64 n] (0, 0) _ rfl (blk_put (blk_put (blk_put B2.out 0 _ rfl) 1 _ rfl) 2 _ rfl) Try.underlying24 rfl (by kernel_rfl)) rfl ⟨A, c, rfl, HC.out, Kd.C_below HR.out ?_, ?_⟩
      all_goals exact below_set (below_set (below_set HB.out (Nat.le_succ _)) (Nat.le_succ _)) (Nat.le_succ _)
set_option maxHeartbeats 4000000 in
set_option maxRecDepth 100000 in
theorem refcut_yes (a n : Int) (A : Option Addr) (c : Nat) (l : List Int) (w : World) (hr : Kd.C (Kd.int .u8) w A l.length l) (hc : l.length ≤ c) (x : Int) (hm : pelicanref09_May.f a l n = some true) (h0 : 0 ≤ x) (h1 : x ≤ (l.length : Int)) :
    Calls Try.prog 20 #[.agg #[.int .i64 a, .slice A l.length c, .int .i64 n], .int .i64 x] w fun e w' => Told w w' e a (l.take x.toNat) x 0 := by
  have HR := Aside0.mk hr
  have HC := Aside0.mk hc
  have HM := Aside0.mk hm
  clear hr hc hm
  go_enter Try.func20, Try.ntmps20
  have hxc : x ≤ (c : Int) := by have := HC.out; omega
  have hlen : (l.take x.toNat).length = x.toNat := by rw [List.length_take]; omega
  have HLE := Aside0.mk hlen
  have HXL := Aside0.mk (show x.toNat ≤ l.length by omega)
  clear hlen
  go_wp2_with (first | (go_at_call 25; (with_reducible refine (pelicanref09_May.calls a A c l n true _ (Kd.C_alloc (Kd.C_alloc HR.out _) _) HC.out HM.out).mono ?_); rintro e w1 ⟨rfl, hb⟩; obtain ⟨b1, b2⟩ := two_blocks hb; obtain ⟨⟨k0, k1, k2⟩, f0, f1, f2⟩ := cells3 b1; obtain ⟨⟨m0, m1, m2⟩, g0, g1, g2⟩ := cells3 b2; have B1 := Aside0.mk b1; have B2 := Aside0.mk b2; have HB := Aside0.mk (below_step (below_alloc (below_alloc (Below.refl w.heap.size w) (.cells #[.int .i64 a, .slice A l.length c, .int .i64 n] 24)) (.cells #[.int .i64 0, .slice none 0 0, .int .i64 0] 24)) hb); clear hb b1 b2))
  have B1d := Aside0.mk (blk_drew B1.out)
  have B2d := Aside0.mk (blk_drew B2.out)
  have HBd := Aside0.mk (below_drew HB.out)
  clear k0 k1 k2 f0 f1 f2
  obtain ⟨⟨k0, k1, k2⟩, f0, f1, f2⟩ := cells3 B1d.out
  refine start_ (n := 10) (S := fun w' => w'.cell? ⟨w.heap.size, 0, none⟩ = some (.int .i64 a) ∧ w'.cell? ⟨w.heap.size, 1, none⟩ = some (.slice A l.length c) ∧ w'.cell? ⟨w.heap.size, 2, none⟩ = some (.int .i64 n)) (ds := [8]) #[false, false, false, false, false, false, false, false, false, false] (by kernel_rfl) rfl rfl ⟨k0, k1, k2⟩ (fun hHeld => ?_)
  refine pure_ (i := 0) (N := some 23) (v := ?_) (a' := ?_) #[true, false, false, false, false, false, false, false, false, false] rfl rfl (by kernel_rfl) (fun _ _ _ h => h) (Or.inl ⟨by rfl, ?_⟩) ?_ ?_
  rotate_left
  · intro w'
    go_simp
    with_reducible rfl
  rotate_left
  · simp only [Act.put, List.setIfInBounds_toArray, List.set_cons_zero, List.set_cons_succ, i64_w, i32_w]
    rfl
  refine pure_ (i := 2) (N := some 25) (v := ?_) (a' := ?_) #[true, false, true, false, false, false, false, false, false, false] rfl rfl (by kernel_rfl) (fun _ _ _ h => h) (Or.inl ⟨by rfl, ?_⟩) ?_ ?_
  rotate_left
  · intro w'
    go_simp
    with_reducible rfl
  rotate_left
  · simp only [Act.put, List.setIfInBounds_toArray, List.set_cons_zero, List.set_cons_succ, i64_w, i32_w]
    rfl
  refine pure_ (i := 4) (N := some 27) (v := ?_) (a' := ?_) #[true, false, true, false, true, false, false, false, false, false] rfl rfl (by kernel_rfl) (fun _ _ _ h => h) (Or.inl ⟨by rfl, ?_⟩) ?_ ?_
  rotate_left
  · intro w'
    go_simp
    with_reducible rfl
  rotate_left
  · simp only [Act.put, List.setIfInBounds_toArray, List.set_cons_zero, List.set_cons_succ, i64_w, i32_w]
    rfl
  refine pure_ (i := 6) (N := some 29) (v := ?_) (a' := ?_) #[true, false, true, false, true, false, true, false, false, false] rfl rfl (by kernel_rfl) (fun _ _ _ h => h) (Or.inl ⟨by rfl, ?_⟩) ?_ ?_
  rotate_left
  · intro w'
    go_simp
    with_reducible rfl
  rotate_left
  · simp only [Act.put, List.setIfInBounds_toArray, List.set_cons_zero, List.set_cons_succ, i64_w, i32_w]
    rfl
  refine take_ (i := 1) (N := some 24) (v := ?_) (a' := ?_) #[true, true, true, false, true, false, true, false, false, false] rfl rfl (by kernel_rfl) (fun _ _ _ h => h) (Or.inl ⟨by rfl, ?_⟩) hHeld ?_ ?_
  rotate_left
  · rintro w' ⟨s0, s1, s2⟩
    go_simp
    with_reducible rfl
  rotate_left
  · simp only [Act.put, List.setIfInBounds_toArray, List.set_cons_zero, List.set_cons_succ, i64_w, i32_w]
    rfl
  refine take_ (i := 3) (N := some 26) (v := ?_) (a' := ?_) #[true, true, true, true, true, false, true, false, false, false] rfl rfl (by kernel_rfl) (fun _ _ _ h => h) (Or.inl ⟨by rfl, ?_⟩) hHeld ?_ ?_
  rotate_left
  · rintro w' ⟨s0, s1, s2⟩
    go_simp
    with_reducible rfl
  rotate_left
  · simp only [Act.put, List.setIfInBounds_toArray, List.set_cons_zero, List.set_cons_succ, i64_w, i32_w]
    rfl
  refine pure_ (i := 5) (N := some 28) (v := ?_) (a' := ?_) #[true, true, true, true, true, true, true, false, false, false] rfl rfl (by kernel_rfl) (fun _ _ _ h => h) (Or.inl ⟨by rfl, ?_⟩) ?_ ?_
  rotate_left
  · intro w'
    go_simp
    with_reducible rfl
  rotate_left
  · simp only [Act.put, List.setIfInBounds_toArray, List.set_cons_zero, List.set_cons_succ, i64_w, i32_w]
    rfl
  refine pure_ (i := 7) (N := some 30) (v := ?_) (a' := ?_) #[true, true, true, true, true, true, true, true, false, false] rfl rfl (by kernel_rfl) (fun _ _ _ h => h) (Or.inl ⟨by rfl, ?_⟩) ?_ ?_
  rotate_left
  · intro w'
    go_simp
    with_reducible rfl
  rotate_left
  · simp only [Act.put, List.setIfInBounds_toArray, List.set_cons_zero, List.set_cons_succ, i64_w, i32_w]
    rfl
  refine last_ (i := 8) (N := none) #[true, true, true, true, true, true, true, true, true, false] rfl rfl (by kernel_rfl) (by decide) (fun K hK => ?_)
  refine skip_ (w1 := ?_) (by rfl) rfl ?_ ?_
  rotate_left
  · go_simp
    rfl
  refine hK.out _ _ ?_
  clear hK K
  refine pure_ (i := 9) (N := some 5) (v := ?_) (a' := ?_) #[true, true, true, true, true, true, true, true, true, true] rfl rfl (by kernel_rfl) (fun _ _ _ h => h) (Or.inl ⟨by rfl, ?_⟩) ?_ ?_
  rotate_left
  · intro w'
    go_simp
    with_reducible rfl
  rotate_left
  · simp only [Act.put, List.setIfInBounds_toArray, List.set_cons_zero, List.set_cons_succ, i64_w, i32_w]
    rfl
  refine done_ (by kernel_rfl) ?_
  go_wp2
  refine bodyPost_ret (results_ct rfl _ _ (w.heap.size + 1) 24 #[.int .i64 a, .slice A x.toNat c, .int .i64 x] (0, 0) _ rfl (blk_put (blk_put (blk_put B2d.out 0 _ rfl) 1 _ rfl) 2 _ rfl) Try.underlying24 rfl (by kernel_rfl)) rfl ⟨A, c, by rw [HLE.out]; all_goals rfl, by have := HC.out; have := HXL.out; have := HLE.out; omega, ?_, ?_⟩
  · exact Kd.C_take (Kd.C_below HR.out (below_set (below_set (below_set HBd.out (Nat.le_succ _)) (Nat.le_succ _)) (Nat.le_succ _))) HXL.out
  · exact below_set (below_set (below_set HBd.out (Nat.le_succ _)) (Nat.le_succ _)) (Nat.le_succ _)
set_option maxHeartbeats 4000000 in
set_option maxRecDepth 100000 in
theorem refcrash_no (a n : Int) (A : Option Addr) (c : Nat) (l : List Int) (w : World) (hr : Kd.C (Kd.int .u8) w A l.length l) (hc : l.length ≤ c) (x : Int) (hm : pelicanref09_May.f a l n = some false) :
    Calls Try.prog 24 #[.agg #[.int .i64 a, .slice A l.length c, .int .i64 n], .int .i64 x] w fun e w' => Told1 w w' e a l n := by
  have HR := Aside0.mk hr
  have HC := Aside0.mk hc
  have HM := Aside0.mk hm
  clear hr hc hm
  go_enter Try.func24, Try.ntmps24
  go_wp2_with (first | (go_at_call 25; (with_reducible refine (pelicanref09_May.calls a A c l n false _ (Kd.C_alloc (Kd.C_alloc HR.out _) _) HC.out HM.out).mono ?_); rintro e w1 ⟨rfl, hb⟩; obtain ⟨b1, b2⟩ := two_blocks hb; obtain ⟨⟨k0, k1, k2⟩, f0, f1, f2⟩ := cells3 b1; obtain ⟨⟨m0, m1, m2⟩, g0, g1, g2⟩ := cells3 b2; have B1 := Aside0.mk b1; have B2 := Aside0.mk b2; have HB := Aside0.mk (below_step (below_alloc (below_alloc (Below.refl w.heap.size w) (.cells #[.int .i64 a, .slice A l.length c, .int .i64 n] 24)) (.cells #[.int .i64 0, .slice none 0 0, .int .i64 0] 24)) hb); clear hb b1 b2))
  refine bodyPost_ret (results_cell_row rfl _ _ (w.heap.size + 1) 24 #[.int .i64 a, .slice A l.length c, .int .i64 n] (0, 0) _ rfl (blk_put (blk_put (blk_put B2.out 0 _ rfl) 1 _ rfl) 2 _ rfl) Try.underlying24 rfl (by kernel_rfl)) rfl ⟨A, c, rfl, HC.out, Kd.C_below HR.out ?_, ?_⟩
  all_goals exact below_set (below_set (below_set HB.out (Nat.le_succ _)) (Nat.le_succ _)) (Nat.le_succ _)
set_option maxHeartbeats 4000000 in
set_option maxRecDepth 100000 in
theorem refcrash_lo (a n : Int) (A : Option Addr) (c : Nat) (l : List Int) (w : World) (hr : Kd.C (Kd.int .u8) w A l.length l) (hc : l.length ≤ c) (x : Int) (hm : pelicanref09_May.f a l n = some true) (h0 : 0 ≤ n) (h1 : n ≤ (l.length : Int)) (h2 : (l.length : Int) ≤ 16384) (hx : x < 0) :
    Calls Try.prog 24 #[.agg #[.int .i64 a, .slice A l.length c, .int .i64 n], .int .i64 x] w fun e w' => Told1 w w' e a (l.take (n).toNat) (n) := by
  have HR := Aside0.mk hr
  have HC := Aside0.mk hc
  have HM := Aside0.mk hm
  clear hr hc hm
  go_enter Try.func24, Try.ntmps24
  have hxc : n ≤ (c : Int) := by have := HC.out; omega
  have hxc2 : 0 ≤ n := by omega
  have hw : wrap64 n = n := by rw [cw64_ (by omega) (by omega)]; all_goals omega
  have HLE := Aside0.mk (show (l.take (n).toNat).length = (n).toNat by rw [List.length_take]; omega)
  have HXL := Aside0.mk (show (n).toNat ≤ l.length by omega)
  go_wp2_with (first | (go_at_call 25; (with_reducible refine (pelicanref09_May.calls a A c l n true _ (Kd.C_alloc (Kd.C_alloc HR.out _) _) HC.out HM.out).mono ?_); rintro e w1 ⟨rfl, hb⟩; obtain ⟨b1, b2⟩ := two_blocks hb; obtain ⟨⟨k0, k1, k2⟩, f0, f1, f2⟩ := cells3 b1; obtain ⟨⟨m0, m1, m2⟩, g0, g1, g2⟩ := cells3 b2; have B1 := Aside0.mk b1; have B2 := Aside0.mk b2; have HB := Aside0.mk (below_step (below_alloc (below_alloc (Below.refl w.heap.size w) (.cells #[.int .i64 a, .slice A l.length c, .int .i64 n] 24)) (.cells #[.int .i64 0, .slice none 0 0, .int .i64 0] 24)) hb); clear hb b1 b2))
  have B1d := Aside0.mk (blk_drew B1.out)
  have B2d := Aside0.mk (blk_drew B2.out)
  have HBd := Aside0.mk (below_drew HB.out)
  clear k0 k1 k2 f0 f1 f2
  obtain ⟨⟨k0, k1, k2⟩, f0, f1, f2⟩ := cells3 B1d.out
  refine start_ (n := 15) (S := fun w' => w'.cell? ⟨w.heap.size, 0, none⟩ = some (.int .i64 a) ∧ w'.cell? ⟨w.heap.size, 1, none⟩ = some (.slice A l.length c) ∧ w'.cell? ⟨w.heap.size, 2, none⟩ = some (.int .i64 n)) (ds := [14]) #[false, false, false, false, false, false, false, false, false, false, false, false, false, false, false] (by kernel_rfl) rfl rfl ⟨k0, k1, k2⟩ (fun hHeld => ?_)
  refine pure_ (i := 0) (N := some 24) (v := ?_) (a' := ?_) #[true, false, false, false, false, false, false, false, false, false, false, false, false, false, false] rfl rfl (by kernel_rfl) (fun _ _ _ h => h) (Or.inl ⟨by rfl, ?_⟩) ?_ ?_
  rotate_left
  · intro w'
    go_simp
    with_reducible rfl
  rotate_left
  · simp only [Act.put, List.setIfInBounds_toArray, List.set_cons_zero, List.set_cons_succ, i64_w, i32_w]
    rfl
  refine pure_ (i := 2) (N := some 26) (v := ?_) (a' := ?_) #[true, false, true, false, false, false, false, false, false, false, false, false, false, false, false] rfl rfl (by kernel_rfl) (fun _ _ _ h => h) (Or.inl ⟨by rfl, ?_⟩) ?_ ?_
  rotate_left
  · intro w'
    go_simp
    with_reducible rfl
  rotate_left
  · simp only [Act.put, List.setIfInBounds_toArray, List.set_cons_zero, List.set_cons_succ, i64_w, i32_w]
    rfl
  refine pure_ (i := 4) (N := some 28) (v := ?_) (a' := ?_) #[true, false, true, false, true, false, false, false, false, false, false, false, false, false, false] rfl rfl (by kernel_rfl) (fun _ _ _ h => h) (Or.inl ⟨by rfl, ?_⟩) ?_ ?_
  rotate_left
  · intro w'
    go_simp
    with_reducible rfl
  rotate_left
  · simp only [Act.put, List.setIfInBounds_toArray, List.set_cons_zero, List.set_cons_succ, i64_w, i32_w]
    rfl
  refine pure_ (i := 6) (N := some 30) (v := ?_) (a' := ?_) #[true, false, true, false, true, false, true, false, false, false, false, false, false, false, false] rfl rfl (by kernel_rfl) (fun _ _ _ h => h) (Or.inl ⟨by rfl, ?_⟩) ?_ ?_
  rotate_left
  · intro w'
    go_simp
    with_reducible rfl
  rotate_left
  · simp only [Act.put, List.setIfInBounds_toArray, List.set_cons_zero, List.set_cons_succ, i64_w, i32_w]
    rfl
  refine pure_ (i := 9) (N := some 33) (v := ?_) (a' := ?_) #[true, false, true, false, true, false, true, false, false, true, false, false, false, false, false] rfl rfl (by kernel_rfl) (fun _ _ _ h => h) (Or.inl ⟨by rfl, ?_⟩) ?_ ?_
  rotate_left
  · intro w'
    go_simp
    with_reducible rfl
  rotate_left
  · simp only [Act.put, List.setIfInBounds_toArray, List.set_cons_zero, List.set_cons_succ, i64_w, i32_w]
    rfl
  refine pure_ (i := 11) (N := some 35) (v := ?_) (a' := ?_) #[true, false, true, false, true, false, true, false, false, true, false, true, false, false, false] rfl rfl (by kernel_rfl) (fun _ _ _ h => h) (Or.inl ⟨by rfl, ?_⟩) ?_ ?_
  rotate_left
  · intro w'
    go_simp
    with_reducible rfl
  rotate_left
  · simp only [Act.put, List.setIfInBounds_toArray, List.set_cons_zero, List.set_cons_succ, i64_w, i32_w]
    rfl
  refine take_ (i := 1) (N := some 25) (v := ?_) (a' := ?_) #[true, true, true, false, true, false, true, false, false, true, false, true, false, false, false] rfl rfl (by kernel_rfl) (fun _ _ _ h => h) (Or.inl ⟨by rfl, ?_⟩) hHeld ?_ ?_
  rotate_left
  · rintro w' ⟨s0, s1, s2⟩
    go_simp
    with_reducible rfl
  rotate_left
  · simp only [Act.put, List.setIfInBounds_toArray, List.set_cons_zero, List.set_cons_succ, i64_w, i32_w]
    rfl
  refine take_ (i := 3) (N := some 27) (v := ?_) (a' := ?_) #[true, true, true, true, true, false, true, false, false, true, false, true, false, false, false] rfl rfl (by kernel_rfl) (fun _ _ _ h => h) (Or.inl ⟨by rfl, ?_⟩) hHeld ?_ ?_
  rotate_left
  · rintro w' ⟨s0, s1, s2⟩
    go_simp
    with_reducible rfl
  rotate_left
  · simp only [Act.put, List.setIfInBounds_toArray, List.set_cons_zero, List.set_cons_succ, i64_w, i32_w]
    rfl
  refine take_ (i := 5) (N := some 29) (v := ?_) (a' := ?_) #[true, true, true, true, true, true, true, false, false, true, false, true, false, false, false] rfl rfl (by kernel_rfl) (fun _ _ _ h => h) (Or.inl ⟨by rfl, ?_⟩) hHeld ?_ ?_
  rotate_left
  · rintro w' ⟨s0, s1, s2⟩
    go_simp
    with_reducible rfl
  rotate_left
  · simp only [Act.put, List.setIfInBounds_toArray, List.set_cons_zero, List.set_cons_succ, i64_w, i32_w]
    rfl
  refine pure_ (i := 7) (N := some 31) (v := ?_) (a' := ?_) #[true, true, true, true, true, true, true, true, false, true, false, true, false, false, false] rfl rfl (by kernel_rfl) (fun _ _ _ h => h) (Or.inl ⟨by rfl, ?_⟩) ?_ ?_
  rotate_left
  · intro w'
    go_simp
    with_reducible rfl
  rotate_left
  · simp only [Act.put, List.setIfInBounds_toArray, List.set_cons_zero, List.set_cons_succ, i64_w, i32_w]
    rfl
  refine pure_ (i := 8) (N := some 32) (v := ?_) (a' := ?_) #[true, true, true, true, true, true, true, true, true, true, false, true, false, false, false] rfl rfl (by kernel_rfl) (fun _ _ _ h => h) (Or.inl ⟨by rfl, ?_⟩) ?_ ?_
  rotate_left
  · intro w'
    go_simp
    with_reducible rfl
  rotate_left
  · simp only [Act.put, List.setIfInBounds_toArray, List.set_cons_zero, List.set_cons_succ, i64_w, i32_w]
    rfl
  refine take_ (i := 10) (N := some 34) (v := ?_) (a' := ?_) #[true, true, true, true, true, true, true, true, true, true, true, true, false, false, false] rfl rfl (by kernel_rfl) (fun _ _ _ h => h) (Or.inl ⟨by rfl, ?_⟩) hHeld ?_ ?_
  rotate_left
  · rintro w' ⟨s0, s1, s2⟩
    go_simp
    with_reducible rfl
  rotate_left
  · simp only [Act.put, List.setIfInBounds_toArray, List.set_cons_zero, List.set_cons_succ, i64_w, i32_w]
    rfl
  refine pure_ (i := 12) (N := some 36) (v := ?_) (a' := ?_) #[true, true, true, true, true, true, true, true, true, true, true, true, true, false, false] rfl rfl (by kernel_rfl) (fun _ _ _ h => h) (Or.inl ⟨by rfl, ?_⟩) ?_ ?_
  rotate_left
  · intro w'
    go_simp
    with_reducible rfl
  rotate_left
  · simp only [Act.put, List.setIfInBounds_toArray, List.set_cons_zero, List.set_cons_succ, i64_w, i32_w]
    rfl
  refine pure_ (i := 13) (N := some 37) (v := ?_) (a' := ?_) #[true, true, true, true, true, true, true, true, true, true, true, true, true, true, false] rfl rfl (by kernel_rfl) (fun _ _ _ h => h) (Or.inl ⟨by rfl, ?_⟩) ?_ ?_
  rotate_left
  · intro w'
    go_simp
    with_reducible rfl
  rotate_left
  · simp only [Act.put, List.setIfInBounds_toArray, List.set_cons_zero, List.set_cons_succ, i64_w, i32_w]
    rfl
  refine last_ (i := 14) (N := none) #[true, true, true, true, true, true, true, true, true, true, true, true, true, true, true] rfl rfl (by kernel_rfl) (by decide) (fun K hK => ?_)
  refine skip_ (w1 := ?_) (by rfl) rfl ?_ ?_
  rotate_left
  · go_simp
    rfl
  refine hK.out _ _ ?_
  clear hK K
  refine done_ (by kernel_rfl) ?_
  go_wp2
  refine bodyPost_ret (results_cell_row rfl _ _ (w.heap.size + 1) 24 #[.int .i64 a, .slice A (n).toNat c, .int .i64 n] (0, 0) _ rfl (blk_put (blk_put (blk_put B2d.out 0 _ rfl) 1 _ rfl) 2 _ rfl) Try.underlying24 rfl (by kernel_rfl)) rfl ⟨A, c, by rw [HLE.out]; all_goals rfl, by have := HC.out; have := HXL.out; have := HLE.out; omega, ?_, ?_⟩
  · exact Kd.C_take (Kd.C_below HR.out (below_set (below_set (below_set HBd.out (Nat.le_succ _)) (Nat.le_succ _)) (Nat.le_succ _))) HXL.out
  · exact below_set (below_set (below_set HBd.out (Nat.le_succ _)) (Nat.le_succ _)) (Nat.le_succ _)
set_option maxHeartbeats 4000000 in
set_option maxRecDepth 100000 in
theorem refcrash_hi (a n : Int) (A : Option Addr) (c : Nat) (l : List Int) (w : World) (hr : Kd.C (Kd.int .u8) w A l.length l) (hc : l.length ≤ c) (x : Int) (hm : pelicanref09_May.f a l n = some true) (h0 : 0 ≤ n) (h1 : n ≤ (l.length : Int)) (h2 : (l.length : Int) ≤ 16384) (hx0 : 0 ≤ x) (hx : (l.length : Int) - n < x) :
    Calls Try.prog 24 #[.agg #[.int .i64 a, .slice A l.length c, .int .i64 n], .int .i64 x] w fun e w' => Told1 w w' e a (l.take (l.length : Int).toNat) (l.length : Int) := by
  have HR := Aside0.mk hr
  have HC := Aside0.mk hc
  have HM := Aside0.mk hm
  clear hr hc hm
  go_enter Try.func24, Try.ntmps24
  have hxc : (l.length : Int) ≤ (c : Int) := by have := HC.out; omega
  have hxc2 : 0 ≤ (l.length : Int) := by omega
  have hw : wrap64 (n + ((l.length : Int) - n)) = (l.length : Int) := by rw [cw64_ (by omega) (by omega)]; all_goals omega
  have HLE := Aside0.mk (show (l.take (l.length : Int).toNat).length = (l.length : Int).toNat by rw [List.length_take]; omega)
  have HXL := Aside0.mk (show (l.length : Int).toNat ≤ l.length by omega)
  go_wp2_with (first | (go_at_call 25; (with_reducible refine (pelicanref09_May.calls a A c l n true _ (Kd.C_alloc (Kd.C_alloc HR.out _) _) HC.out HM.out).mono ?_); rintro e w1 ⟨rfl, hb⟩; obtain ⟨b1, b2⟩ := two_blocks hb; obtain ⟨⟨k0, k1, k2⟩, f0, f1, f2⟩ := cells3 b1; obtain ⟨⟨m0, m1, m2⟩, g0, g1, g2⟩ := cells3 b2; have B1 := Aside0.mk b1; have B2 := Aside0.mk b2; have HB := Aside0.mk (below_step (below_alloc (below_alloc (Below.refl w.heap.size w) (.cells #[.int .i64 a, .slice A l.length c, .int .i64 n] 24)) (.cells #[.int .i64 0, .slice none 0 0, .int .i64 0] 24)) hb); clear hb b1 b2))
  have B1d := Aside0.mk (blk_drew B1.out)
  have B2d := Aside0.mk (blk_drew B2.out)
  have HBd := Aside0.mk (below_drew HB.out)
  clear k0 k1 k2 f0 f1 f2
  obtain ⟨⟨k0, k1, k2⟩, f0, f1, f2⟩ := cells3 B1d.out
  refine start_ (n := 15) (S := fun w' => w'.cell? ⟨w.heap.size, 0, none⟩ = some (.int .i64 a) ∧ w'.cell? ⟨w.heap.size, 1, none⟩ = some (.slice A l.length c) ∧ w'.cell? ⟨w.heap.size, 2, none⟩ = some (.int .i64 n)) (ds := [14]) #[false, false, false, false, false, false, false, false, false, false, false, false, false, false, false] (by kernel_rfl) rfl rfl ⟨k0, k1, k2⟩ (fun hHeld => ?_)
  refine pure_ (i := 0) (N := some 24) (v := ?_) (a' := ?_) #[true, false, false, false, false, false, false, false, false, false, false, false, false, false, false] rfl rfl (by kernel_rfl) (fun _ _ _ h => h) (Or.inl ⟨by rfl, ?_⟩) ?_ ?_
  rotate_left
  · intro w'
    go_simp
    with_reducible rfl
  rotate_left
  · simp only [Act.put, List.setIfInBounds_toArray, List.set_cons_zero, List.set_cons_succ, i64_w, i32_w]
    rfl
  refine pure_ (i := 2) (N := some 26) (v := ?_) (a' := ?_) #[true, false, true, false, false, false, false, false, false, false, false, false, false, false, false] rfl rfl (by kernel_rfl) (fun _ _ _ h => h) (Or.inl ⟨by rfl, ?_⟩) ?_ ?_
  rotate_left
  · intro w'
    go_simp
    with_reducible rfl
  rotate_left
  · simp only [Act.put, List.setIfInBounds_toArray, List.set_cons_zero, List.set_cons_succ, i64_w, i32_w]
    rfl
  refine pure_ (i := 4) (N := some 28) (v := ?_) (a' := ?_) #[true, false, true, false, true, false, false, false, false, false, false, false, false, false, false] rfl rfl (by kernel_rfl) (fun _ _ _ h => h) (Or.inl ⟨by rfl, ?_⟩) ?_ ?_
  rotate_left
  · intro w'
    go_simp
    with_reducible rfl
  rotate_left
  · simp only [Act.put, List.setIfInBounds_toArray, List.set_cons_zero, List.set_cons_succ, i64_w, i32_w]
    rfl
  refine pure_ (i := 6) (N := some 30) (v := ?_) (a' := ?_) #[true, false, true, false, true, false, true, false, false, false, false, false, false, false, false] rfl rfl (by kernel_rfl) (fun _ _ _ h => h) (Or.inl ⟨by rfl, ?_⟩) ?_ ?_
  rotate_left
  · intro w'
    go_simp
    with_reducible rfl
  rotate_left
  · simp only [Act.put, List.setIfInBounds_toArray, List.set_cons_zero, List.set_cons_succ, i64_w, i32_w]
    rfl
  refine pure_ (i := 9) (N := some 33) (v := ?_) (a' := ?_) #[true, false, true, false, true, false, true, false, false, true, false, false, false, false, false] rfl rfl (by kernel_rfl) (fun _ _ _ h => h) (Or.inl ⟨by rfl, ?_⟩) ?_ ?_
  rotate_left
  · intro w'
    go_simp
    with_reducible rfl
  rotate_left
  · simp only [Act.put, List.setIfInBounds_toArray, List.set_cons_zero, List.set_cons_succ, i64_w, i32_w]
    rfl
  refine pure_ (i := 11) (N := some 35) (v := ?_) (a' := ?_) #[true, false, true, false, true, false, true, false, false, true, false, true, false, false, false] rfl rfl (by kernel_rfl) (fun _ _ _ h => h) (Or.inl ⟨by rfl, ?_⟩) ?_ ?_
  rotate_left
  · intro w'
    go_simp
    with_reducible rfl
  rotate_left
  · simp only [Act.put, List.setIfInBounds_toArray, List.set_cons_zero, List.set_cons_succ, i64_w, i32_w]
    rfl
  refine take_ (i := 1) (N := some 25) (v := ?_) (a' := ?_) #[true, true, true, false, true, false, true, false, false, true, false, true, false, false, false] rfl rfl (by kernel_rfl) (fun _ _ _ h => h) (Or.inl ⟨by rfl, ?_⟩) hHeld ?_ ?_
  rotate_left
  · rintro w' ⟨s0, s1, s2⟩
    go_simp
    with_reducible rfl
  rotate_left
  · simp only [Act.put, List.setIfInBounds_toArray, List.set_cons_zero, List.set_cons_succ, i64_w, i32_w]
    rfl
  refine take_ (i := 3) (N := some 27) (v := ?_) (a' := ?_) #[true, true, true, true, true, false, true, false, false, true, false, true, false, false, false] rfl rfl (by kernel_rfl) (fun _ _ _ h => h) (Or.inl ⟨by rfl, ?_⟩) hHeld ?_ ?_
  rotate_left
  · rintro w' ⟨s0, s1, s2⟩
    go_simp
    with_reducible rfl
  rotate_left
  · simp only [Act.put, List.setIfInBounds_toArray, List.set_cons_zero, List.set_cons_succ, i64_w, i32_w]
    rfl
  refine take_ (i := 5) (N := some 29) (v := ?_) (a' := ?_) #[true, true, true, true, true, true, true, false, false, true, false, true, false, false, false] rfl rfl (by kernel_rfl) (fun _ _ _ h => h) (Or.inl ⟨by rfl, ?_⟩) hHeld ?_ ?_
  rotate_left
  · rintro w' ⟨s0, s1, s2⟩
    go_simp
    with_reducible rfl
  rotate_left
  · simp only [Act.put, List.setIfInBounds_toArray, List.set_cons_zero, List.set_cons_succ, i64_w, i32_w]
    rfl
  refine pure_ (i := 7) (N := some 31) (v := ?_) (a' := ?_) #[true, true, true, true, true, true, true, true, false, true, false, true, false, false, false] rfl rfl (by kernel_rfl) (fun _ _ _ h => h) (Or.inl ⟨by rfl, ?_⟩) ?_ ?_
  rotate_left
  · intro w'
    go_simp
    with_reducible rfl
  rotate_left
  · simp only [Act.put, List.setIfInBounds_toArray, List.set_cons_zero, List.set_cons_succ, i64_w, i32_w]
    rfl
  refine pure_ (i := 8) (N := some 32) (v := ?_) (a' := ?_) #[true, true, true, true, true, true, true, true, true, true, false, true, false, false, false] rfl rfl (by kernel_rfl) (fun _ _ _ h => h) (Or.inl ⟨by rfl, ?_⟩) ?_ ?_
  rotate_left
  · intro w'
    go_simp
    with_reducible rfl
  rotate_left
  · simp only [Act.put, List.setIfInBounds_toArray, List.set_cons_zero, List.set_cons_succ, i64_w, i32_w]
    rfl
  refine take_ (i := 10) (N := some 34) (v := ?_) (a' := ?_) #[true, true, true, true, true, true, true, true, true, true, true, true, false, false, false] rfl rfl (by kernel_rfl) (fun _ _ _ h => h) (Or.inl ⟨by rfl, ?_⟩) hHeld ?_ ?_
  rotate_left
  · rintro w' ⟨s0, s1, s2⟩
    go_simp
    with_reducible rfl
  rotate_left
  · simp only [Act.put, List.setIfInBounds_toArray, List.set_cons_zero, List.set_cons_succ, i64_w, i32_w]
    rfl
  refine pure_ (i := 12) (N := some 36) (v := ?_) (a' := ?_) #[true, true, true, true, true, true, true, true, true, true, true, true, true, false, false] rfl rfl (by kernel_rfl) (fun _ _ _ h => h) (Or.inl ⟨by rfl, ?_⟩) ?_ ?_
  rotate_left
  · intro w'
    go_simp
    with_reducible rfl
  rotate_left
  · simp only [Act.put, List.setIfInBounds_toArray, List.set_cons_zero, List.set_cons_succ, i64_w, i32_w]
    rfl
  refine pure_ (i := 13) (N := some 37) (v := ?_) (a' := ?_) #[true, true, true, true, true, true, true, true, true, true, true, true, true, true, false] rfl rfl (by kernel_rfl) (fun _ _ _ h => h) (Or.inl ⟨by rfl, ?_⟩) ?_ ?_
  rotate_left
  · intro w'
    go_simp
    with_reducible rfl
  rotate_left
  · simp only [Act.put, List.setIfInBounds_toArray, List.set_cons_zero, List.set_cons_succ, i64_w, i32_w]
    rfl
  refine last_ (i := 14) (N := none) #[true, true, true, true, true, true, true, true, true, true, true, true, true, true, true] rfl rfl (by kernel_rfl) (by decide) (fun K hK => ?_)
  refine skip_ (w1 := ?_) (by rfl) rfl ?_ ?_
  rotate_left
  · go_simp
    rfl
  refine hK.out _ _ ?_
  clear hK K
  refine done_ (by kernel_rfl) ?_
  go_wp2
  refine bodyPost_ret (results_cell_row rfl _ _ (w.heap.size + 1) 24 #[.int .i64 a, .slice A ((l.length : Int)).toNat c, .int .i64 (l.length : Int)] (0, 0) _ rfl (blk_put (blk_put (blk_put B2d.out 0 _ rfl) 1 _ rfl) 2 _ rfl) Try.underlying24 rfl (by kernel_rfl)) rfl ⟨A, c, by rw [HLE.out]; all_goals rfl, by have := HC.out; have := HXL.out; have := HLE.out; omega, ?_, ?_⟩
  · exact Kd.C_take (Kd.C_below HR.out (below_set (below_set (below_set HBd.out (Nat.le_succ _)) (Nat.le_succ _)) (Nat.le_succ _))) HXL.out
  · exact below_set (below_set (below_set HBd.out (Nat.le_succ _)) (Nat.le_succ _)) (Nat.le_succ _)
set_option maxHeartbeats 4000000 in
set_option maxRecDepth 100000 in
theorem refcrash_in (a n : Int) (A : Option Addr) (c : Nat) (l : List Int) (w : World) (hr : Kd.C (Kd.int .u8) w A l.length l) (hc : l.length ≤ c) (x : Int) (hm : pelicanref09_May.f a l n = some true) (h0 : 0 ≤ n) (h1 : n ≤ (l.length : Int)) (h2 : (l.length : Int) ≤ 16384) (hx0 : 0 ≤ x) (hx : x ≤ (l.length : Int) - n) :
    Calls Try.prog 24 #[.agg #[.int .i64 a, .slice A l.length c, .int .i64 n], .int .i64 x] w fun e w' => Told1 w w' e a (l.take (n + x).toNat) (n + x) := by
  have HR := Aside0.mk hr
  have HC := Aside0.mk hc
  have HM := Aside0.mk hm
  clear hr hc hm
  go_enter Try.func24, Try.ntmps24
  have hxc : (n + x) ≤ (c : Int) := by have := HC.out; omega
  have hxc2 : 0 ≤ (n + x) := by omega
  have hw : wrap64 (n + x) = (n + x) := by rw [cw64_ (by omega) (by omega)]; all_goals omega
  have HLE := Aside0.mk (show (l.take (n + x).toNat).length = (n + x).toNat by rw [List.length_take]; omega)
  have HXL := Aside0.mk (show (n + x).toNat ≤ l.length by omega)
  go_wp2_with (first | (go_at_call 25; (with_reducible refine (pelicanref09_May.calls a A c l n true _ (Kd.C_alloc (Kd.C_alloc HR.out _) _) HC.out HM.out).mono ?_); rintro e w1 ⟨rfl, hb⟩; obtain ⟨b1, b2⟩ := two_blocks hb; obtain ⟨⟨k0, k1, k2⟩, f0, f1, f2⟩ := cells3 b1; obtain ⟨⟨m0, m1, m2⟩, g0, g1, g2⟩ := cells3 b2; have B1 := Aside0.mk b1; have B2 := Aside0.mk b2; have HB := Aside0.mk (below_step (below_alloc (below_alloc (Below.refl w.heap.size w) (.cells #[.int .i64 a, .slice A l.length c, .int .i64 n] 24)) (.cells #[.int .i64 0, .slice none 0 0, .int .i64 0] 24)) hb); clear hb b1 b2))
  have B1d := Aside0.mk (blk_drew B1.out)
  have B2d := Aside0.mk (blk_drew B2.out)
  have HBd := Aside0.mk (below_drew HB.out)
  clear k0 k1 k2 f0 f1 f2
  obtain ⟨⟨k0, k1, k2⟩, f0, f1, f2⟩ := cells3 B1d.out
  refine start_ (n := 15) (S := fun w' => w'.cell? ⟨w.heap.size, 0, none⟩ = some (.int .i64 a) ∧ w'.cell? ⟨w.heap.size, 1, none⟩ = some (.slice A l.length c) ∧ w'.cell? ⟨w.heap.size, 2, none⟩ = some (.int .i64 n)) (ds := [14]) #[false, false, false, false, false, false, false, false, false, false, false, false, false, false, false] (by kernel_rfl) rfl rfl ⟨k0, k1, k2⟩ (fun hHeld => ?_)
  refine pure_ (i := 0) (N := some 24) (v := ?_) (a' := ?_) #[true, false, false, false, false, false, false, false, false, false, false, false, false, false, false] rfl rfl (by kernel_rfl) (fun _ _ _ h => h) (Or.inl ⟨by rfl, ?_⟩) ?_ ?_
  rotate_left
  · intro w'
    go_simp
    with_reducible rfl
  rotate_left
  · simp only [Act.put, List.setIfInBounds_toArray, List.set_cons_zero, List.set_cons_succ, i64_w, i32_w]
    rfl
  refine pure_ (i := 2) (N := some 26) (v := ?_) (a' := ?_) #[true, false, true, false, false, false, false, false, false, false, false, false, false, false, false] rfl rfl (by kernel_rfl) (fun _ _ _ h => h) (Or.inl ⟨by rfl, ?_⟩) ?_ ?_
  rotate_left
  · intro w'
    go_simp
    with_reducible rfl
  rotate_left
  · simp only [Act.put, List.setIfInBounds_toArray, List.set_cons_zero, List.set_cons_succ, i64_w, i32_w]
    rfl
  refine pure_ (i := 4) (N := some 28) (v := ?_) (a' := ?_) #[true, false, true, false, true, false, false, false, false, false, false, false, false, false, false] rfl rfl (by kernel_rfl) (fun _ _ _ h => h) (Or.inl ⟨by rfl, ?_⟩) ?_ ?_
  rotate_left
  · intro w'
    go_simp
    with_reducible rfl
  rotate_left
  · simp only [Act.put, List.setIfInBounds_toArray, List.set_cons_zero, List.set_cons_succ, i64_w, i32_w]
    rfl
  refine pure_ (i := 6) (N := some 30) (v := ?_) (a' := ?_) #[true, false, true, false, true, false, true, false, false, false, false, false, false, false, false] rfl rfl (by kernel_rfl) (fun _ _ _ h => h) (Or.inl ⟨by rfl, ?_⟩) ?_ ?_
  rotate_left
  · intro w'
    go_simp
    with_reducible rfl
  rotate_left
  · simp only [Act.put, List.setIfInBounds_toArray, List.set_cons_zero, List.set_cons_succ, i64_w, i32_w]
    rfl
  refine pure_ (i := 9) (N := some 33) (v := ?_) (a' := ?_) #[true, false, true, false, true, false, true, false, false, true, false, false, false, false, false] rfl rfl (by kernel_rfl) (fun _ _ _ h => h) (Or.inl ⟨by rfl, ?_⟩) ?_ ?_
  rotate_left
  · intro w'
    go_simp
    with_reducible rfl
  rotate_left
  · simp only [Act.put, List.setIfInBounds_toArray, List.set_cons_zero, List.set_cons_succ, i64_w, i32_w]
    rfl
  refine pure_ (i := 11) (N := some 35) (v := ?_) (a' := ?_) #[true, false, true, false, true, false, true, false, false, true, false, true, false, false, false] rfl rfl (by kernel_rfl) (fun _ _ _ h => h) (Or.inl ⟨by rfl, ?_⟩) ?_ ?_
  rotate_left
  · intro w'
    go_simp
    with_reducible rfl
  rotate_left
  · simp only [Act.put, List.setIfInBounds_toArray, List.set_cons_zero, List.set_cons_succ, i64_w, i32_w]
    rfl
  refine take_ (i := 1) (N := some 25) (v := ?_) (a' := ?_) #[true, true, true, false, true, false, true, false, false, true, false, true, false, false, false] rfl rfl (by kernel_rfl) (fun _ _ _ h => h) (Or.inl ⟨by rfl, ?_⟩) hHeld ?_ ?_
  rotate_left
  · rintro w' ⟨s0, s1, s2⟩
    go_simp
    with_reducible rfl
  rotate_left
  · simp only [Act.put, List.setIfInBounds_toArray, List.set_cons_zero, List.set_cons_succ, i64_w, i32_w]
    rfl
  refine take_ (i := 3) (N := some 27) (v := ?_) (a' := ?_) #[true, true, true, true, true, false, true, false, false, true, false, true, false, false, false] rfl rfl (by kernel_rfl) (fun _ _ _ h => h) (Or.inl ⟨by rfl, ?_⟩) hHeld ?_ ?_
  rotate_left
  · rintro w' ⟨s0, s1, s2⟩
    go_simp
    with_reducible rfl
  rotate_left
  · simp only [Act.put, List.setIfInBounds_toArray, List.set_cons_zero, List.set_cons_succ, i64_w, i32_w]
    rfl
  refine take_ (i := 5) (N := some 29) (v := ?_) (a' := ?_) #[true, true, true, true, true, true, true, false, false, true, false, true, false, false, false] rfl rfl (by kernel_rfl) (fun _ _ _ h => h) (Or.inl ⟨by rfl, ?_⟩) hHeld ?_ ?_
  rotate_left
  · rintro w' ⟨s0, s1, s2⟩
    go_simp
    with_reducible rfl
  rotate_left
  · simp only [Act.put, List.setIfInBounds_toArray, List.set_cons_zero, List.set_cons_succ, i64_w, i32_w]
    rfl
  refine pure_ (i := 7) (N := some 31) (v := ?_) (a' := ?_) #[true, true, true, true, true, true, true, true, false, true, false, true, false, false, false] rfl rfl (by kernel_rfl) (fun _ _ _ h => h) (Or.inl ⟨by rfl, ?_⟩) ?_ ?_
  rotate_left
  · intro w'
    go_simp
    with_reducible rfl
  rotate_left
  · simp only [Act.put, List.setIfInBounds_toArray, List.set_cons_zero, List.set_cons_succ, i64_w, i32_w]
    rfl
  refine pure_ (i := 8) (N := some 32) (v := ?_) (a' := ?_) #[true, true, true, true, true, true, true, true, true, true, false, true, false, false, false] rfl rfl (by kernel_rfl) (fun _ _ _ h => h) (Or.inl ⟨by rfl, ?_⟩) ?_ ?_
  rotate_left
  · intro w'
    go_simp
    with_reducible rfl
  rotate_left
  · simp only [Act.put, List.setIfInBounds_toArray, List.set_cons_zero, List.set_cons_succ, i64_w, i32_w]
    rfl
  refine take_ (i := 10) (N := some 34) (v := ?_) (a' := ?_) #[true, true, true, true, true, true, true, true, true, true, true, true, false, false, false] rfl rfl (by kernel_rfl) (fun _ _ _ h => h) (Or.inl ⟨by rfl, ?_⟩) hHeld ?_ ?_
  rotate_left
  · rintro w' ⟨s0, s1, s2⟩
    go_simp
    with_reducible rfl
  rotate_left
  · simp only [Act.put, List.setIfInBounds_toArray, List.set_cons_zero, List.set_cons_succ, i64_w, i32_w]
    rfl
  refine pure_ (i := 12) (N := some 36) (v := ?_) (a' := ?_) #[true, true, true, true, true, true, true, true, true, true, true, true, true, false, false] rfl rfl (by kernel_rfl) (fun _ _ _ h => h) (Or.inl ⟨by rfl, ?_⟩) ?_ ?_
  rotate_left
  · intro w'
    go_simp
    with_reducible rfl
  rotate_left
  · simp only [Act.put, List.setIfInBounds_toArray, List.set_cons_zero, List.set_cons_succ, i64_w, i32_w]
    rfl
  refine pure_ (i := 13) (N := some 37) (v := ?_) (a' := ?_) #[true, true, true, true, true, true, true, true, true, true, true, true, true, true, false] rfl rfl (by kernel_rfl) (fun _ _ _ h => h) (Or.inl ⟨by rfl, ?_⟩) ?_ ?_
  rotate_left
  · intro w'
    go_simp
    with_reducible rfl
  rotate_left
  · simp only [Act.put, List.setIfInBounds_toArray, List.set_cons_zero, List.set_cons_succ, i64_w, i32_w]
    rfl
  refine last_ (i := 14) (N := none) #[true, true, true, true, true, true, true, true, true, true, true, true, true, true, true] rfl rfl (by kernel_rfl) (by decide) (fun K hK => ?_)
  refine skip_ (w1 := ?_) (by rfl) rfl ?_ ?_
  rotate_left
  · go_simp
    rfl
  refine hK.out _ _ ?_
  clear hK K
  refine done_ (by kernel_rfl) ?_
  go_wp2
  refine bodyPost_ret (results_cell_row rfl _ _ (w.heap.size + 1) 24 #[.int .i64 a, .slice A ((n + x)).toNat c, .int .i64 (n + x)] (0, 0) _ rfl (blk_put (blk_put (blk_put B2d.out 0 _ rfl) 1 _ rfl) 2 _ rfl) Try.underlying24 rfl (by kernel_rfl)) rfl ⟨A, c, by rw [HLE.out]; all_goals rfl, by have := HC.out; have := HXL.out; have := HLE.out; omega, ?_, ?_⟩
  · exact Kd.C_take (Kd.C_below HR.out (below_set (below_set (below_set HBd.out (Nat.le_succ _)) (Nat.le_succ _)) (Nat.le_succ _))) HXL.out
  · exact below_set (below_set (below_set HBd.out (Nat.le_succ _)) (Nat.le_succ _)) (Nat.le_succ _)
set_option maxHeartbeats 4000000 in
set_option maxRecDepth 100000 in
theorem refwrite_no (a n : Int) (A : Option Addr) (c : Nat) (l : List Int) (w : World) (hr : Kd.C (Kd.int .u8) w A l.length l) (hc : l.length ≤ c) (B : Option Addr) (d : Nat) (k : List Int) (hk : Kd.C (Kd.int .u8) w B k.length k) (hd : k.length ≤ d) (hm : pelicanref09_May.f a l n = some false) :
    Calls Try.prog 18 #[.agg #[.int .i64 a, .slice A l.length c, .int .i64 n], .slice B k.length d] w fun e w' => Told w w' e a l n 1 := by
  have HR := Aside0.mk hr
  have HC := Aside0.mk hc
  have HM := Aside0.mk hm
  clear hr hc hm
  go_enter Try.func18, Try.ntmps18
  have HK := Aside0.mk hk
  have HD := Aside0.mk hd
  clear hk hd
  go_wp2_with (first | (go_at_call 25; (with_reducible refine (pelicanref09_May.calls a A c l n false _ (Kd.C_alloc (Kd.C_alloc HR.out _) _) HC.out HM.out).mono ?_); rintro e w1 ⟨rfl, hb⟩; obtain ⟨b1, b2⟩ := two_blocks hb; obtain ⟨⟨k0, k1, k2⟩, f0, f1, f2⟩ := cells3 b1; obtain ⟨⟨m0, m1, m2⟩, g0, g1, g2⟩ := cells3 b2; have B1 := Aside0.mk b1; have B2 := Aside0.mk b2; have HB := Aside0.mk (below_step (below_alloc (below_alloc (Below.refl w.heap.size w) (.cells #[.int .i64 a, .slice A l.length c, .int .i64 n] 24)) (.cells #[.int .i64 0, .slice none 0 0, .int .i64 0] 24)) hb); clear hb b1 b2))
  refine bodyPost_ret (results_ct rfl _ _ (w.heap.size + 1) 24 #[.int .i64 a, .slice A l.length c, .int .i64 n] (0, 0) _ rfl (blk_put (blk_put (blk_put B2.out 0 _ rfl) 1 _ rfl) 2 _ rfl) Try.underlying24 rfl (by kernel_rfl)) rfl ⟨A, c, rfl, HC.out, Kd.C_below HR.out ?_, ?_⟩
  all_goals exact below_set (below_set (below_set HB.out (Nat.le_succ _)) (Nat.le_succ _)) (Nat.le_succ _)
set_option maxHeartbeats 4000000 in
set_option maxRecDepth 100000 in
theorem refwrite_full (a n : Int) (A : Option Addr) (c : Nat) (l : List Int) (w : World) (hr : Kd.C (Kd.int .u8) w A l.length l) (hc : l.length ≤ c) (B : Option Addr) (d : Nat) (k : List Int) (hk : Kd.C (Kd.int .u8) w B k.length k) (hd : k.length ≤ d) (hm : pelicanref09_May.f a l n = some true) (h1 : 0 ≤ a) (h2 : a ≤ 16384) (h3 : (l.length : Int) ≤ a) (hx : a - (l.length : Int) < (k.length : Int)) :
    Calls Try.prog 18 #[.agg #[.int .i64 a, .slice A l.length c, .int .i64 n], .slice B k.length d] w fun e w' => Told w w' e a l n 12 := by
  have HR := Aside0.mk hr
  have HC := Aside0.mk hc
  have HM := Aside0.mk hm
  clear hr hc hm
  go_enter Try.func18, Try.ntmps18
  have HK := Aside0.mk hk
  have HD := Aside0.mk hd
  clear hk hd
  have hw : wrap64 (a - (l.length : Int)) = a - (l.length : Int) := by rw [cw64_ (by omega) (by omega)]
  go_wp2_with (first | (go_at_call 25; (with_reducible refine (pelicanref09_May.calls a A c l n true _ (Kd.C_alloc (Kd.C_alloc HR.out _) _) HC.out HM.out).mono ?_); rintro e w1 ⟨rfl, hb⟩; obtain ⟨b1, b2⟩ := two_blocks hb; obtain ⟨⟨k0, k1, k2⟩, f0, f1, f2⟩ := cells3 b1; obtain ⟨⟨m0, m1, m2⟩, g0, g1, g2⟩ := cells3 b2; have B1 := Aside0.mk b1; have B2 := Aside0.mk b2; have HB := Aside0.mk (below_step (below_alloc (below_alloc (Below.refl w.heap.size w) (.cells #[.int .i64 a, .slice A l.length c, .int .i64 n] 24)) (.cells #[.int .i64 0, .slice none 0 0, .int .i64 0] 24)) hb); clear hb b1 b2))
  refine bodyPost_ret (results_ct rfl _ _ (w.heap.size + 1) 24 #[.int .i64 a, .slice A l.length c, .int .i64 n] (0, 0) _ rfl (blk_put (blk_put (blk_put B2.out 0 _ rfl) 1 _ rfl) 2 _ rfl) Try.underlying24 rfl (by kernel_rfl)) rfl ⟨A, c, rfl, HC.out, Kd.C_below HR.out ?_, ?_⟩
  all_goals exact below_set (below_set (below_set HB.out (Nat.le_succ _)) (Nat.le_succ _)) (Nat.le_succ _)
set_option maxHeartbeats 4000000 in
set_option maxRecDepth 100000 in
theorem refwrite_yes (a n : Int) (A : Option Addr) (c : Nat) (l : List Int) (w : World) (hr : Kd.C (Kd.int .u8) w A l.length l) (hc : l.length ≤ c) (B : Option Addr) (d : Nat) (k : List Int) (hk : Kd.C (Kd.int .u8) w B k.length k) (hd : k.length ≤ d) (hm : pelicanref09_May.f a l n = some true) (h1 : 0 ≤ a) (h2 : a ≤ 16384) (h3 : (l.length : Int) ≤ a) (hx : (k.length : Int) ≤ a - (l.length : Int)) :
    Calls Try.prog 18 #[.agg #[.int .i64 a, .slice A l.length c, .int .i64 n], .slice B k.length d] w fun e w' => Told w w' e a (l ++ k) n 0 := by
  have HR := Aside0.mk hr
  have HC := Aside0.mk hc
  have HM := Aside0.mk hm
  clear hr hc hm
  go_enter Try.func18, Try.ntmps18
  have HK := Aside0.mk hk
  have HD := Aside0.mk hd
  clear hk hd
  have hw : wrap64 (a - (l.length : Int)) = a - (l.length : Int) := by rw [cw64_ (by omega) (by omega)]
  have HLN := Aside0.mk (show l.length ≤ 16384 by omega)
  have HKN := Aside0.mk (show k.length ≤ 16384 by omega)
  go_upto_region 7 with (first
    | (go_at_call 25; (with_reducible refine (pelicanref09_May.calls a A c l n true _ (Kd.C_alloc (Kd.C_alloc HR.out _) _) HC.out HM.out).mono ?_); rintro e w1 ⟨rfl, hb⟩; obtain ⟨b1, b2⟩ := two_blocks hb; obtain ⟨⟨k0, k1, k2⟩, f0, f1, f2⟩ := cells3 b1; obtain ⟨⟨m0, m1, m2⟩, g0, g1, g2⟩ := cells3 b2; have B1 := Aside0.mk b1; have B2 := Aside0.mk b2; have HB := Aside0.mk (below_step (below_alloc (below_alloc (Below.refl w.heap.size w) (.cells #[.int .i64 a, .slice A l.length c, .int .i64 n] 24)) (.cells #[.int .i64 0, .slice none 0 0, .int .i64 0] 24)) hb); clear hb b1 b2)
    | ((with_reducible refine gate_builtin (b := .append) (xs := #[.const (.slice none 0 0), .tmp 24]) rfl ?_); (try (refine gate_guard (by rfl) ?_; dsimp only)); at_builtin; refine Kd.R_append_rows (Kd.int .u8) (w0 := w1) w1.heap.size rfl (.const (.slice none 0 0)) (.tmp 24) 22 5 (.int .u8 0) 1 rfl Try.underlying22 info5 rfl (by decide) (by omega) (.slice none 0 0) ([] : List Int) l A l.length c (fun k => k ≠ w.heap.size + 1) (fun _ => False) rfl rfl (Kd.R_nil (Kd.int .u8) 5 _ _ _) (Kd.C_below HR.out HB.out) (fun _ _ h => h) (fun _ h => h.elim) (fun k hk => by have := blk_lt B2.out; omega) (Below.refl w1.heap.size w1) (Nat.le_refl _) (by have := HLN.out; simp; omega) ?_; intro v' wA hN hb hg hat; rw [List.nil_append] at hN; obtain ⟨An, cn, rfl⟩ := Kd.R_slice hN; have HNA := Aside0.mk hN; have HBA := Aside0.mk hb; clear hN hb hg hat k0 k1 k2 f0 f1 f2 m0 m1 m2 g0 g1 g2; obtain ⟨⟨k0, k1, k2⟩, f0, f1, f2⟩ := cells3 (blk_below B1.out HBA.out); obtain ⟨⟨m0, m1, m2⟩, g0, g1, g2⟩ := cells3 (blk_below B2.out HBA.out)))
  refine start_ (n := 10) (S := fun w' => w'.cell? ⟨w.heap.size, 0, none⟩ = some (.int .i64 a) ∧ w'.cell? ⟨w.heap.size, 1, none⟩ = some (.slice A l.length c) ∧ w'.cell? ⟨w.heap.size, 2, none⟩ = some (.int .i64 n)) (ds := [8]) #[false, false, false, false, false, false, false, false, false, false] (by kernel_rfl) rfl rfl ⟨k0, k1, k2⟩ (fun hHeld => ?_)
  refine pure_ (i := 0) (N := some 26) (v := ?_) (a' := ?_) #[true, false, false, false, false, false, false, false, false, false] rfl rfl (by kernel_rfl) (fun _ _ _ h => h) (Or.inl ⟨by rfl, ?_⟩) ?_ ?_
  rotate_left
  · intro w'
    go_simp
    with_reducible rfl
  rotate_left
  · simp only [Act.put, List.setIfInBounds_toArray, List.set_cons_zero, List.set_cons_succ, i64_w, i32_w]
    rfl
  refine pure_ (i := 2) (N := some 28) (v := ?_) (a' := ?_) #[true, false, true, false, false, false, false, false, false, false] rfl rfl (by kernel_rfl) (fun _ _ _ h => h) (Or.inl ⟨by rfl, ?_⟩) ?_ ?_
  rotate_left
  · intro w'
    go_simp
    with_reducible rfl
  rotate_left
  · simp only [Act.put, List.setIfInBounds_toArray, List.set_cons_zero, List.set_cons_succ, i64_w, i32_w]
    rfl
  refine pure_ (i := 3) (N := some 29) (v := ?_) (a' := ?_) #[true, false, true, true, false, false, false, false, false, false] rfl rfl (by kernel_rfl) (fun _ _ _ h => h) (Or.inl ⟨by rfl, ?_⟩) ?_ ?_
  rotate_left
  · intro w'
    go_simp
    with_reducible rfl
  rotate_left
  · simp only [Act.put, List.setIfInBounds_toArray, List.set_cons_zero, List.set_cons_succ, i64_w, i32_w]
    rfl
  refine pure_ (i := 5) (N := some 31) (v := ?_) (a' := ?_) #[true, false, true, true, false, true, false, false, false, false] rfl rfl (by kernel_rfl) (fun _ _ _ h => h) (Or.inl ⟨by rfl, ?_⟩) ?_ ?_
  rotate_left
  · intro w'
    go_simp
    with_reducible rfl
  rotate_left
  · simp only [Act.put, List.setIfInBounds_toArray, List.set_cons_zero, List.set_cons_succ, i64_w, i32_w]
    rfl
  refine take_ (i := 1) (N := some 27) (v := ?_) (a' := ?_) #[true, true, true, true, false, true, false, false, false, false] rfl rfl (by kernel_rfl) (fun _ _ _ h => h) (Or.inl ⟨by rfl, ?_⟩) hHeld ?_ ?_
  rotate_left
  · rintro w' ⟨s0, s1, s2⟩
    go_simp
    with_reducible rfl
  rotate_left
  · simp only [Act.put, List.setIfInBounds_toArray, List.set_cons_zero, List.set_cons_succ, i64_w, i32_w]
    rfl
  refine take_ (i := 6) (N := some 32) (v := ?_) (a' := ?_) #[true, true, true, true, false, true, true, false, false, false] rfl rfl (by kernel_rfl) (fun _ _ _ h => h) (Or.inl ⟨by rfl, ?_⟩) hHeld ?_ ?_
  rotate_left
  · rintro w' ⟨s0, s1, s2⟩
    go_simp
    with_reducible rfl
  rotate_left
  · simp only [Act.put, List.setIfInBounds_toArray, List.set_cons_zero, List.set_cons_succ, i64_w, i32_w]
    rfl
  refine one_ (i := 4) (N := some 30) #[true, true, true, true, true, true, true, false, false, false] rfl rfl (by kernel_rfl) (by decide) (fun K hK => ?_)
  refine Kd.R_append_rows_step (Kd.int .u8) (w0 := w1) w1.heap.size (by rfl) (.tmp 28) (.tmp 29) 22 5 (.int .u8 0) 1 (by rfl) Try.underlying22 info5 rfl (by decide) (by omega) (.slice An l.length cn) l k B k.length d (fun k => k ≠ w.heap.size + 1) (fun _ => False) (by rfl) (by rfl) (Kd.R_drew HNA.out) (Kd.C_below HK.out (below_drew (below_step HB.out HBA.out))) (fun _ _ h => h) (fun _ h => h.elim) (fun k hk => by have h1 := blk_lt B2.out; have h2 := HBA.out.size; have h3 : wA.drew.heap.size = wA.heap.size := rfl; omega) (below_drew HBA.out) (below_size (below_drew HBA.out)) (by have := HLN.out; have := HKN.out; omega) ?_
  intro v2 wF hN hb hg hat
  obtain ⟨Af, cf, rfl⟩ := Kd.R_slice hN
  rw [List.length_append] at hN
  have HNF := Aside0.mk hN
  have HBF := Aside0.mk hb
  clear hN hb hg hat
  obtain ⟨⟨p0, p1, p2⟩, q0, q1, q2⟩ := cells3 (blk_below B1.out HBF.out)
  obtain ⟨⟨r0, r1, r2⟩, s0, s1, s2⟩ := cells3 (blk_below B2.out HBF.out)
  refine hK.out _ _ ⟨p0, p1, p2⟩ (fun hHeld => ?_)
  clear hK K
  refine norm_ (a' := ?_) ?_ ?_
  rotate_left
  · show Act.put _ (some 30) _ = _
    simp only [Act.put, List.setIfInBounds_toArray, List.set_cons_zero, List.set_cons_succ, i64_w, i32_w]
    rfl
  refine pure_ (i := 7) (N := some 33) (v := ?_) (a' := ?_) #[true, true, true, true, true, true, true, true, false, false] rfl rfl (by kernel_rfl) (fun _ _ _ h => h) (Or.inl ⟨by rfl, ?_⟩) ?_ ?_
  rotate_left
  · intro w'
    go_simp
    with_reducible rfl
  rotate_left
  · simp only [Act.put, List.setIfInBounds_toArray, List.set_cons_zero, List.set_cons_succ, i64_w, i32_w]
    rfl
  refine last_ (i := 8) (N := none) #[true, true, true, true, true, true, true, true, true, false] rfl rfl (by kernel_rfl) (by decide) (fun K hK => ?_)
  refine skip_ (w1 := ?_) (by rfl) rfl ?_ ?_
  rotate_left
  · go_simp
    rfl
  refine hK.out _ _ ?_
  clear hK K
  refine pure_ (i := 9) (N := some 5) (v := ?_) (a' := ?_) #[true, true, true, true, true, true, true, true, true, true] rfl rfl (by kernel_rfl) (fun _ _ _ h => h) (Or.inl ⟨by rfl, ?_⟩) ?_ ?_
  rotate_left
  · intro w'
    go_simp
    with_reducible rfl
  rotate_left
  · simp only [Act.put, List.setIfInBounds_toArray, List.set_cons_zero, List.set_cons_succ, i64_w, i32_w]
    rfl
  refine done_ (by kernel_rfl) ?_
  go_wp2
  refine bodyPost_ret (results_ct rfl _ _ (w.heap.size + 1) 24 #[.int .i64 a, .slice Af (l.length + k.length) cf, .int .i64 n] (0, 0) _ rfl (blk_put (blk_put (blk_put (blk_below B2.out HBF.out) 0 _ rfl) 1 _ rfl) 2 _ rfl) Try.underlying24 rfl (by kernel_rfl)) rfl ⟨Af, cf, by rw [List.length_append]; all_goals rfl, ?_, ?_, ?_⟩
  · have z := (Kd.R_reads' HNF.out).2.1
    rw [List.length_append]
    exact z
  · exact (Kd.R_reads' (Kd.R_far (Kd.R_far (Kd.R_far HNF.out (p := ⟨w.heap.size + 1, 0, none⟩) (fun k hk => hk) _) (p := ⟨w.heap.size + 1, 1, none⟩) (fun k hk => hk) _) (p := ⟨w.heap.size + 1, 2, none⟩) (fun k hk => hk) _)).2.2
  · exact below_set (below_set (below_set (below_step HB.out HBF.out) (Nat.le_succ _)) (Nat.le_succ _)) (Nat.le_succ _)
end Go.Proofs.Ytlldfihhdbbicaa.P
