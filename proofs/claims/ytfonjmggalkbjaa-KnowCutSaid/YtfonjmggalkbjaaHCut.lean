/- By hand: the law KnowCut's walk. -/
import Derived.Test.YtfonjmggalkbjaaHMore
namespace Go.Proofs.Ytfonjmggalkbjaa.P
open Go.RowKit Go.Proofs.YtfonjmggalkbjaaW.PrintWords Go.Proofs.YtfonjmggalkbjaaW.PrintLast Go.Proofs.YtfonjmggalkbjaaW.PrintMore
set_option linter.unusedVariables false
set_option linter.unusedSimpArgs false
set_option maxRecDepth 100000 in
set_option maxHeartbeats 4000000 in
theorem cut_o1 (l : List S24) (u t : S24) (A0 A1 A2 : Option Addr) (c0 c1 c2 : Nat) (w : World) (hr0 : Kd.C k24 w A0 l.length l) (hc0 : l.length ≤ c0) (hr1 : Kd.C k24 w A1 u.f2.length u.f2) (hc1 : u.f2.length ≤ c1) (hr2 : Kd.C k24 w A2 t.f2.length t.f2) (hc2 : t.f2.length ≤ c2) (q1 q2 q3 : Nat) (b2 : Bool) (b3 : Bool) (h1 : pelicanref05_LightAll.f q1 l = some false) (h2 : pelicanref05_Light.f q2 u.f0 u.f1 u.f2 = some b2) (h3 : pelicanref05_Light.f q3 t.f0 t.f1 t.f2 = some b3)  :
    Calls Try.prog 5 #[.slice A0 l.length c0, .agg #[.int .i64 u.f0, .int .i64 u.f1, .slice A1 u.f2.length c1], .agg #[.int .i64 t.f0, .int .i64 t.f1, .slice A2 t.f2.length c2]] w fun e w' => e = .returned (.bool true) ∧ Below w.heap.size w w' := by
  have HR0 := Aside0.mk hr0
  have HC0 := Aside0.mk hc0
  have HR1 := Aside0.mk hr1
  have HC1 := Aside0.mk hc1
  have HR2 := Aside0.mk hr2
  have HC2 := Aside0.mk hc2
  clear hr0 hc0 hr1 hc1 hr2 hc2
  have F1 := Aside0.mk h1
  have F2 := Aside0.mk h2
  have F3 := Aside0.mk h3
  clear h1 h2 h3
  go_enter Try.func5, Try.ntmps5
  go_wp2_with (first
    | (go_at_call 10; (with_reducible refine (pelicanlaw06_awake.calls true _ rfl).mono ?_); rintro e w_ ⟨rfl, hb_⟩; have X1 := Aside0.mk (blk_below (two_allocs_ w (.cells #[.int .i64 u.f0, .int .i64 u.f1, .slice A1 u.f2.length c1] 24 (0, 0)) (.cells #[.int .i64 t.f0, .int .i64 t.f1, .slice A2 t.f2.length c2] 24 (0, 0))).1 hb_); have X2 := Aside0.mk (blk_below (two_allocs_ w (.cells #[.int .i64 u.f0, .int .i64 u.f1, .slice A1 u.f2.length c1] 24 (0, 0)) (.cells #[.int .i64 t.f0, .int .i64 t.f1, .slice A2 t.f2.length c2] 24 (0, 0))).2 hb_); have HB := Aside0.mk (below_step (below_alloc (below_alloc (Below.refl w.heap.size w) (.cells #[.int .i64 u.f0, .int .i64 u.f1, .slice A1 u.f2.length c1] 24 (0, 0))) (.cells #[.int .i64 t.f0, .int .i64 t.f1, .slice A2 t.f2.length c2] 24 (0, 0))) hb_); clear hb_; obtain ⟨⟨k0, k1, k2⟩, j0, j1, j2⟩ := cells3 X1.out; obtain ⟨⟨m0, m1, m2⟩, i0, i1, i2⟩ := cells3 X2.out)
    | (go_at_call 11; (with_reducible refine (pelicanref05_LightAll.calls q1 A0 c0 l false _ (Kd.C_below HR0.out HB.out) HC0.out F1.out).mono ?_); rintro e w_ ⟨rfl, hb_⟩; clear k0 k1 k2 j0 j1 j2 m0 m1 m2 i0 i1 i2; have HB := Aside0.mk (below_step HB.out hb_); have X1 := Aside0.mk (blk_below X1.out hb_); have X2 := Aside0.mk (blk_below X2.out hb_); obtain ⟨⟨k0, k1, k2⟩, j0, j1, j2⟩ := cells3 X1.out; obtain ⟨⟨m0, m1, m2⟩, i0, i1, i2⟩ := cells3 X2.out; clear hb_)
    | (go_at_call 12; (with_reducible refine (pelicanref05_Light.calls q2 u.f0 u.f1 A1 c1 u.f2 b2 _ (Kd.C_below HR1.out HB.out) HC1.out F2.out).mono ?_); rintro e w_ ⟨rfl, hb_⟩; clear k0 k1 k2 j0 j1 j2 m0 m1 m2 i0 i1 i2; have HB := Aside0.mk (below_step HB.out hb_); have X1 := Aside0.mk (blk_below X1.out hb_); have X2 := Aside0.mk (blk_below X2.out hb_); obtain ⟨⟨k0, k1, k2⟩, j0, j1, j2⟩ := cells3 X1.out; obtain ⟨⟨m0, m1, m2⟩, i0, i1, i2⟩ := cells3 X2.out; clear hb_)
    | (go_at_call 12; (with_reducible refine (pelicanref05_Light.calls q3 t.f0 t.f1 A2 c2 t.f2 b3 _ (Kd.C_below HR2.out HB.out) HC2.out F3.out).mono ?_); rintro e w_ ⟨rfl, hb_⟩; clear k0 k1 k2 j0 j1 j2 m0 m1 m2 i0 i1 i2; have HB := Aside0.mk (below_step HB.out hb_); have X1 := Aside0.mk (blk_below X1.out hb_); have X2 := Aside0.mk (blk_below X2.out hb_); obtain ⟨⟨k0, k1, k2⟩, j0, j1, j2⟩ := cells3 X1.out; obtain ⟨⟨m0, m1, m2⟩, i0, i1, i2⟩ := cells3 X2.out; clear hb_))
  go_ret
  exact ⟨rfl, HB.out⟩
set_option maxRecDepth 100000 in
set_option maxHeartbeats 4000000 in
theorem cut_o2 (l : List S24) (u t : S24) (A0 A1 A2 : Option Addr) (c0 c1 c2 : Nat) (w : World) (hr0 : Kd.C k24 w A0 l.length l) (hc0 : l.length ≤ c0) (hr1 : Kd.C k24 w A1 u.f2.length u.f2) (hc1 : u.f2.length ≤ c1) (hr2 : Kd.C k24 w A2 t.f2.length t.f2) (hc2 : t.f2.length ≤ c2) (q1 q2 q3 : Nat) (b3 : Bool) (h1 : pelicanref05_LightAll.f q1 l = some true) (h2 : pelicanref05_Light.f q2 u.f0 u.f1 u.f2 = some false) (h3 : pelicanref05_Light.f q3 t.f0 t.f1 t.f2 = some b3)  :
    Calls Try.prog 5 #[.slice A0 l.length c0, .agg #[.int .i64 u.f0, .int .i64 u.f1, .slice A1 u.f2.length c1], .agg #[.int .i64 t.f0, .int .i64 t.f1, .slice A2 t.f2.length c2]] w fun e w' => e = .returned (.bool true) ∧ Below w.heap.size w w' := by
  have HR0 := Aside0.mk hr0
  have HC0 := Aside0.mk hc0
  have HR1 := Aside0.mk hr1
  have HC1 := Aside0.mk hc1
  have HR2 := Aside0.mk hr2
  have HC2 := Aside0.mk hc2
  clear hr0 hc0 hr1 hc1 hr2 hc2
  have F1 := Aside0.mk h1
  have F2 := Aside0.mk h2
  have F3 := Aside0.mk h3
  clear h1 h2 h3
  go_enter Try.func5, Try.ntmps5
  go_wp2_with (first
    | (go_at_call 10; (with_reducible refine (pelicanlaw06_awake.calls true _ rfl).mono ?_); rintro e w_ ⟨rfl, hb_⟩; have X1 := Aside0.mk (blk_below (two_allocs_ w (.cells #[.int .i64 u.f0, .int .i64 u.f1, .slice A1 u.f2.length c1] 24 (0, 0)) (.cells #[.int .i64 t.f0, .int .i64 t.f1, .slice A2 t.f2.length c2] 24 (0, 0))).1 hb_); have X2 := Aside0.mk (blk_below (two_allocs_ w (.cells #[.int .i64 u.f0, .int .i64 u.f1, .slice A1 u.f2.length c1] 24 (0, 0)) (.cells #[.int .i64 t.f0, .int .i64 t.f1, .slice A2 t.f2.length c2] 24 (0, 0))).2 hb_); have HB := Aside0.mk (below_step (below_alloc (below_alloc (Below.refl w.heap.size w) (.cells #[.int .i64 u.f0, .int .i64 u.f1, .slice A1 u.f2.length c1] 24 (0, 0))) (.cells #[.int .i64 t.f0, .int .i64 t.f1, .slice A2 t.f2.length c2] 24 (0, 0))) hb_); clear hb_; obtain ⟨⟨k0, k1, k2⟩, j0, j1, j2⟩ := cells3 X1.out; obtain ⟨⟨m0, m1, m2⟩, i0, i1, i2⟩ := cells3 X2.out)
    | (go_at_call 11; (with_reducible refine (pelicanref05_LightAll.calls q1 A0 c0 l true _ (Kd.C_below HR0.out HB.out) HC0.out F1.out).mono ?_); rintro e w_ ⟨rfl, hb_⟩; clear k0 k1 k2 j0 j1 j2 m0 m1 m2 i0 i1 i2; have HB := Aside0.mk (below_step HB.out hb_); have X1 := Aside0.mk (blk_below X1.out hb_); have X2 := Aside0.mk (blk_below X2.out hb_); obtain ⟨⟨k0, k1, k2⟩, j0, j1, j2⟩ := cells3 X1.out; obtain ⟨⟨m0, m1, m2⟩, i0, i1, i2⟩ := cells3 X2.out; clear hb_)
    | (go_at_call 12; (with_reducible refine (pelicanref05_Light.calls q2 u.f0 u.f1 A1 c1 u.f2 false _ (Kd.C_below HR1.out HB.out) HC1.out F2.out).mono ?_); rintro e w_ ⟨rfl, hb_⟩; clear k0 k1 k2 j0 j1 j2 m0 m1 m2 i0 i1 i2; have HB := Aside0.mk (below_step HB.out hb_); have X1 := Aside0.mk (blk_below X1.out hb_); have X2 := Aside0.mk (blk_below X2.out hb_); obtain ⟨⟨k0, k1, k2⟩, j0, j1, j2⟩ := cells3 X1.out; obtain ⟨⟨m0, m1, m2⟩, i0, i1, i2⟩ := cells3 X2.out; clear hb_)
    | (go_at_call 12; (with_reducible refine (pelicanref05_Light.calls q3 t.f0 t.f1 A2 c2 t.f2 b3 _ (Kd.C_below HR2.out HB.out) HC2.out F3.out).mono ?_); rintro e w_ ⟨rfl, hb_⟩; clear k0 k1 k2 j0 j1 j2 m0 m1 m2 i0 i1 i2; have HB := Aside0.mk (below_step HB.out hb_); have X1 := Aside0.mk (blk_below X1.out hb_); have X2 := Aside0.mk (blk_below X2.out hb_); obtain ⟨⟨k0, k1, k2⟩, j0, j1, j2⟩ := cells3 X1.out; obtain ⟨⟨m0, m1, m2⟩, i0, i1, i2⟩ := cells3 X2.out; clear hb_))
  go_ret
  exact ⟨rfl, HB.out⟩
set_option maxRecDepth 100000 in
set_option maxHeartbeats 4000000 in
theorem cut_o3 (l : List S24) (u t : S24) (A0 A1 A2 : Option Addr) (c0 c1 c2 : Nat) (w : World) (hr0 : Kd.C k24 w A0 l.length l) (hc0 : l.length ≤ c0) (hr1 : Kd.C k24 w A1 u.f2.length u.f2) (hc1 : u.f2.length ≤ c1) (hr2 : Kd.C k24 w A2 t.f2.length t.f2) (hc2 : t.f2.length ≤ c2) (q1 q2 q3 : Nat)  (h1 : pelicanref05_LightAll.f q1 l = some true) (h2 : pelicanref05_Light.f q2 u.f0 u.f1 u.f2 = some true) (h3 : pelicanref05_Light.f q3 t.f0 t.f1 t.f2 = some false)  :
    Calls Try.prog 5 #[.slice A0 l.length c0, .agg #[.int .i64 u.f0, .int .i64 u.f1, .slice A1 u.f2.length c1], .agg #[.int .i64 t.f0, .int .i64 t.f1, .slice A2 t.f2.length c2]] w fun e w' => e = .returned (.bool true) ∧ Below w.heap.size w w' := by
  have HR0 := Aside0.mk hr0
  have HC0 := Aside0.mk hc0
  have HR1 := Aside0.mk hr1
  have HC1 := Aside0.mk hc1
  have HR2 := Aside0.mk hr2
  have HC2 := Aside0.mk hc2
  clear hr0 hc0 hr1 hc1 hr2 hc2
  have F1 := Aside0.mk h1
  have F2 := Aside0.mk h2
  have F3 := Aside0.mk h3
  clear h1 h2 h3
  go_enter Try.func5, Try.ntmps5
  go_wp2_with (first
    | (go_at_call 10; (with_reducible refine (pelicanlaw06_awake.calls true _ rfl).mono ?_); rintro e w_ ⟨rfl, hb_⟩; have X1 := Aside0.mk (blk_below (two_allocs_ w (.cells #[.int .i64 u.f0, .int .i64 u.f1, .slice A1 u.f2.length c1] 24 (0, 0)) (.cells #[.int .i64 t.f0, .int .i64 t.f1, .slice A2 t.f2.length c2] 24 (0, 0))).1 hb_); have X2 := Aside0.mk (blk_below (two_allocs_ w (.cells #[.int .i64 u.f0, .int .i64 u.f1, .slice A1 u.f2.length c1] 24 (0, 0)) (.cells #[.int .i64 t.f0, .int .i64 t.f1, .slice A2 t.f2.length c2] 24 (0, 0))).2 hb_); have HB := Aside0.mk (below_step (below_alloc (below_alloc (Below.refl w.heap.size w) (.cells #[.int .i64 u.f0, .int .i64 u.f1, .slice A1 u.f2.length c1] 24 (0, 0))) (.cells #[.int .i64 t.f0, .int .i64 t.f1, .slice A2 t.f2.length c2] 24 (0, 0))) hb_); clear hb_; obtain ⟨⟨k0, k1, k2⟩, j0, j1, j2⟩ := cells3 X1.out; obtain ⟨⟨m0, m1, m2⟩, i0, i1, i2⟩ := cells3 X2.out)
    | (go_at_call 11; (with_reducible refine (pelicanref05_LightAll.calls q1 A0 c0 l true _ (Kd.C_below HR0.out HB.out) HC0.out F1.out).mono ?_); rintro e w_ ⟨rfl, hb_⟩; clear k0 k1 k2 j0 j1 j2 m0 m1 m2 i0 i1 i2; have HB := Aside0.mk (below_step HB.out hb_); have X1 := Aside0.mk (blk_below X1.out hb_); have X2 := Aside0.mk (blk_below X2.out hb_); obtain ⟨⟨k0, k1, k2⟩, j0, j1, j2⟩ := cells3 X1.out; obtain ⟨⟨m0, m1, m2⟩, i0, i1, i2⟩ := cells3 X2.out; clear hb_)
    | (go_at_call 12; (with_reducible refine (pelicanref05_Light.calls q2 u.f0 u.f1 A1 c1 u.f2 true _ (Kd.C_below HR1.out HB.out) HC1.out F2.out).mono ?_); rintro e w_ ⟨rfl, hb_⟩; clear k0 k1 k2 j0 j1 j2 m0 m1 m2 i0 i1 i2; have HB := Aside0.mk (below_step HB.out hb_); have X1 := Aside0.mk (blk_below X1.out hb_); have X2 := Aside0.mk (blk_below X2.out hb_); obtain ⟨⟨k0, k1, k2⟩, j0, j1, j2⟩ := cells3 X1.out; obtain ⟨⟨m0, m1, m2⟩, i0, i1, i2⟩ := cells3 X2.out; clear hb_)
    | (go_at_call 12; (with_reducible refine (pelicanref05_Light.calls q3 t.f0 t.f1 A2 c2 t.f2 false _ (Kd.C_below HR2.out HB.out) HC2.out F3.out).mono ?_); rintro e w_ ⟨rfl, hb_⟩; clear k0 k1 k2 j0 j1 j2 m0 m1 m2 i0 i1 i2; have HB := Aside0.mk (below_step HB.out hb_); have X1 := Aside0.mk (blk_below X1.out hb_); have X2 := Aside0.mk (blk_below X2.out hb_); obtain ⟨⟨k0, k1, k2⟩, j0, j1, j2⟩ := cells3 X1.out; obtain ⟨⟨m0, m1, m2⟩, i0, i1, i2⟩ := cells3 X2.out; clear hb_))
  go_ret
  exact ⟨rfl, HB.out⟩
set_option maxRecDepth 100000 in
set_option maxHeartbeats 4000000 in
theorem cut_len (l : List S24) (u t : S24) (A0 A1 A2 : Option Addr) (c0 c1 c2 : Nat) (w : World) (hr0 : Kd.C k24 w A0 l.length l) (hc0 : l.length ≤ c0) (hr1 : Kd.C k24 w A1 u.f2.length u.f2) (hc1 : u.f2.length ≤ c1) (hr2 : Kd.C k24 w A2 t.f2.length t.f2) (hc2 : t.f2.length ≤ c2) (q1 q2 q3 : Nat)  (h1 : pelicanref05_LightAll.f q1 l = some true) (h2 : pelicanref05_Light.f q2 u.f0 u.f1 u.f2 = some true) (h3 : pelicanref05_Light.f q3 t.f0 t.f1 t.f2 = some true) (d : (20 : Int) < (l.length : Int)) :
    Calls Try.prog 5 #[.slice A0 l.length c0, .agg #[.int .i64 u.f0, .int .i64 u.f1, .slice A1 u.f2.length c1], .agg #[.int .i64 t.f0, .int .i64 t.f1, .slice A2 t.f2.length c2]] w fun e w' => e = .returned (.bool true) ∧ Below w.heap.size w w' := by
  have HR0 := Aside0.mk hr0
  have HC0 := Aside0.mk hc0
  have HR1 := Aside0.mk hr1
  have HC1 := Aside0.mk hc1
  have HR2 := Aside0.mk hr2
  have HC2 := Aside0.mk hc2
  clear hr0 hc0 hr1 hc1 hr2 hc2
  have F1 := Aside0.mk h1
  have F2 := Aside0.mk h2
  have F3 := Aside0.mk h3
  clear h1 h2 h3
  go_enter Try.func5, Try.ntmps5
  go_wp2_with (first
    | (go_at_call 10; (with_reducible refine (pelicanlaw06_awake.calls true _ rfl).mono ?_); rintro e w_ ⟨rfl, hb_⟩; have X1 := Aside0.mk (blk_below (two_allocs_ w (.cells #[.int .i64 u.f0, .int .i64 u.f1, .slice A1 u.f2.length c1] 24 (0, 0)) (.cells #[.int .i64 t.f0, .int .i64 t.f1, .slice A2 t.f2.length c2] 24 (0, 0))).1 hb_); have X2 := Aside0.mk (blk_below (two_allocs_ w (.cells #[.int .i64 u.f0, .int .i64 u.f1, .slice A1 u.f2.length c1] 24 (0, 0)) (.cells #[.int .i64 t.f0, .int .i64 t.f1, .slice A2 t.f2.length c2] 24 (0, 0))).2 hb_); have HB := Aside0.mk (below_step (below_alloc (below_alloc (Below.refl w.heap.size w) (.cells #[.int .i64 u.f0, .int .i64 u.f1, .slice A1 u.f2.length c1] 24 (0, 0))) (.cells #[.int .i64 t.f0, .int .i64 t.f1, .slice A2 t.f2.length c2] 24 (0, 0))) hb_); clear hb_; obtain ⟨⟨k0, k1, k2⟩, j0, j1, j2⟩ := cells3 X1.out; obtain ⟨⟨m0, m1, m2⟩, i0, i1, i2⟩ := cells3 X2.out)
    | (go_at_call 11; (with_reducible refine (pelicanref05_LightAll.calls q1 A0 c0 l true _ (Kd.C_below HR0.out HB.out) HC0.out F1.out).mono ?_); rintro e w_ ⟨rfl, hb_⟩; clear k0 k1 k2 j0 j1 j2 m0 m1 m2 i0 i1 i2; have HB := Aside0.mk (below_step HB.out hb_); have X1 := Aside0.mk (blk_below X1.out hb_); have X2 := Aside0.mk (blk_below X2.out hb_); obtain ⟨⟨k0, k1, k2⟩, j0, j1, j2⟩ := cells3 X1.out; obtain ⟨⟨m0, m1, m2⟩, i0, i1, i2⟩ := cells3 X2.out; clear hb_)
    | (go_at_call 12; (with_reducible refine (pelicanref05_Light.calls q2 u.f0 u.f1 A1 c1 u.f2 true _ (Kd.C_below HR1.out HB.out) HC1.out F2.out).mono ?_); rintro e w_ ⟨rfl, hb_⟩; clear k0 k1 k2 j0 j1 j2 m0 m1 m2 i0 i1 i2; have HB := Aside0.mk (below_step HB.out hb_); have X1 := Aside0.mk (blk_below X1.out hb_); have X2 := Aside0.mk (blk_below X2.out hb_); obtain ⟨⟨k0, k1, k2⟩, j0, j1, j2⟩ := cells3 X1.out; obtain ⟨⟨m0, m1, m2⟩, i0, i1, i2⟩ := cells3 X2.out; clear hb_)
    | (go_at_call 12; (with_reducible refine (pelicanref05_Light.calls q3 t.f0 t.f1 A2 c2 t.f2 true _ (Kd.C_below HR2.out HB.out) HC2.out F3.out).mono ?_); rintro e w_ ⟨rfl, hb_⟩; clear k0 k1 k2 j0 j1 j2 m0 m1 m2 i0 i1 i2; have HB := Aside0.mk (below_step HB.out hb_); have X1 := Aside0.mk (blk_below X1.out hb_); have X2 := Aside0.mk (blk_below X2.out hb_); obtain ⟨⟨k0, k1, k2⟩, j0, j1, j2⟩ := cells3 X1.out; obtain ⟨⟨m0, m1, m2⟩, i0, i1, i2⟩ := cells3 X2.out; clear hb_))
  go_ret
  exact ⟨rfl, HB.out⟩
set_option maxRecDepth 100000 in
set_option maxHeartbeats 4000000 in
theorem cut_o4 (l : List S24) (u t : S24) (A0 A1 A2 : Option Addr) (c0 c1 c2 : Nat) (w : World) (hr0 : Kd.C k24 w A0 l.length l) (hc0 : l.length ≤ c0) (hr1 : Kd.C k24 w A1 u.f2.length u.f2) (hc1 : u.f2.length ≤ c1) (hr2 : Kd.C k24 w A2 t.f2.length t.f2) (hc2 : t.f2.length ≤ c2) (q1 q2 q3 : Nat)  (h1 : pelicanref05_LightAll.f q1 l = some true) (h2 : pelicanref05_Light.f q2 u.f0 u.f1 u.f2 = some true) (h3 : pelicanref05_Light.f q3 t.f0 t.f1 t.f2 = some true) (h4 : know_Makes.f l u.f0 u.f1 u.f2 = some false) (d : (l.length : Int) ≤ 20) :
    Calls Try.prog 5 #[.slice A0 l.length c0, .agg #[.int .i64 u.f0, .int .i64 u.f1, .slice A1 u.f2.length c1], .agg #[.int .i64 t.f0, .int .i64 t.f1, .slice A2 t.f2.length c2]] w fun e w' => e = .returned (.bool true) ∧ Below w.heap.size w w' := by
  have HR0 := Aside0.mk hr0
  have HC0 := Aside0.mk hc0
  have HR1 := Aside0.mk hr1
  have HC1 := Aside0.mk hc1
  have HR2 := Aside0.mk hr2
  have HC2 := Aside0.mk hc2
  clear hr0 hc0 hr1 hc1 hr2 hc2
  have F1 := Aside0.mk h1
  have F2 := Aside0.mk h2
  have F3 := Aside0.mk h3
  have F4 := Aside0.mk h4
  clear h1 h2 h3 h4
  go_enter Try.func5, Try.ntmps5
  go_wp2_with (first
    | (go_at_call 10; (with_reducible refine (pelicanlaw06_awake.calls true _ rfl).mono ?_); rintro e w_ ⟨rfl, hb_⟩; have X1 := Aside0.mk (blk_below (two_allocs_ w (.cells #[.int .i64 u.f0, .int .i64 u.f1, .slice A1 u.f2.length c1] 24 (0, 0)) (.cells #[.int .i64 t.f0, .int .i64 t.f1, .slice A2 t.f2.length c2] 24 (0, 0))).1 hb_); have X2 := Aside0.mk (blk_below (two_allocs_ w (.cells #[.int .i64 u.f0, .int .i64 u.f1, .slice A1 u.f2.length c1] 24 (0, 0)) (.cells #[.int .i64 t.f0, .int .i64 t.f1, .slice A2 t.f2.length c2] 24 (0, 0))).2 hb_); have HB := Aside0.mk (below_step (below_alloc (below_alloc (Below.refl w.heap.size w) (.cells #[.int .i64 u.f0, .int .i64 u.f1, .slice A1 u.f2.length c1] 24 (0, 0))) (.cells #[.int .i64 t.f0, .int .i64 t.f1, .slice A2 t.f2.length c2] 24 (0, 0))) hb_); clear hb_; obtain ⟨⟨k0, k1, k2⟩, j0, j1, j2⟩ := cells3 X1.out; obtain ⟨⟨m0, m1, m2⟩, i0, i1, i2⟩ := cells3 X2.out)
    | (go_at_call 11; (with_reducible refine (pelicanref05_LightAll.calls q1 A0 c0 l true _ (Kd.C_below HR0.out HB.out) HC0.out F1.out).mono ?_); rintro e w_ ⟨rfl, hb_⟩; clear k0 k1 k2 j0 j1 j2 m0 m1 m2 i0 i1 i2; have HB := Aside0.mk (below_step HB.out hb_); have X1 := Aside0.mk (blk_below X1.out hb_); have X2 := Aside0.mk (blk_below X2.out hb_); obtain ⟨⟨k0, k1, k2⟩, j0, j1, j2⟩ := cells3 X1.out; obtain ⟨⟨m0, m1, m2⟩, i0, i1, i2⟩ := cells3 X2.out; clear hb_)
    | (go_at_call 12; (with_reducible refine (pelicanref05_Light.calls q2 u.f0 u.f1 A1 c1 u.f2 true _ (Kd.C_below HR1.out HB.out) HC1.out F2.out).mono ?_); rintro e w_ ⟨rfl, hb_⟩; clear k0 k1 k2 j0 j1 j2 m0 m1 m2 i0 i1 i2; have HB := Aside0.mk (below_step HB.out hb_); have X1 := Aside0.mk (blk_below X1.out hb_); have X2 := Aside0.mk (blk_below X2.out hb_); obtain ⟨⟨k0, k1, k2⟩, j0, j1, j2⟩ := cells3 X1.out; obtain ⟨⟨m0, m1, m2⟩, i0, i1, i2⟩ := cells3 X2.out; clear hb_)
    | (go_at_call 12; (with_reducible refine (pelicanref05_Light.calls q3 t.f0 t.f1 A2 c2 t.f2 true _ (Kd.C_below HR2.out HB.out) HC2.out F3.out).mono ?_); rintro e w_ ⟨rfl, hb_⟩; clear k0 k1 k2 j0 j1 j2 m0 m1 m2 i0 i1 i2; have HB := Aside0.mk (below_step HB.out hb_); have X1 := Aside0.mk (blk_below X1.out hb_); have X2 := Aside0.mk (blk_below X2.out hb_); obtain ⟨⟨k0, k1, k2⟩, j0, j1, j2⟩ := cells3 X1.out; obtain ⟨⟨m0, m1, m2⟩, i0, i1, i2⟩ := cells3 X2.out; clear hb_)
    | (go_at_call 21; (with_reducible refine (know_Makes.calls A0 c0 l u.f0 u.f1 A1 c1 u.f2 false _ (Kd.C_below HR0.out HB.out) HC0.out (Kd.C_below HR1.out HB.out) HC1.out F4.out).mono ?_); rintro e w_ ⟨rfl, hb_⟩; clear k0 k1 k2 j0 j1 j2 m0 m1 m2 i0 i1 i2; have HB := Aside0.mk (below_step HB.out hb_); have X1 := Aside0.mk (blk_below X1.out hb_); have X2 := Aside0.mk (blk_below X2.out hb_); obtain ⟨⟨k0, k1, k2⟩, j0, j1, j2⟩ := cells3 X1.out; obtain ⟨⟨m0, m1, m2⟩, i0, i1, i2⟩ := cells3 X2.out; clear hb_))
  go_ret
  exact ⟨rfl, HB.out⟩
set_option maxRecDepth 100000 in
set_option maxHeartbeats 16000000 in
theorem cut_main (l : List S24) (u t : S24) (A0 A1 A2 : Option Addr) (c0 c1 c2 : Nat) (w : World) (hr0 : Kd.C k24 w A0 l.length l) (hc0 : l.length ≤ c0) (hr1 : Kd.C k24 w A1 u.f2.length u.f2) (hc1 : u.f2.length ≤ c1) (hr2 : Kd.C k24 w A2 t.f2.length t.f2) (hc2 : t.f2.length ≤ c2) (q1 q2 q3 : Nat)  (h1 : pelicanref05_LightAll.f q1 l = some true) (h2 : pelicanref05_Light.f q2 u.f0 u.f1 u.f2 = some true) (h3 : pelicanref05_Light.f q3 t.f0 t.f1 t.f2 = some true) (h4 : know_Makes.f l u.f0 u.f1 u.f2 = some true) (d1 : (l.length : Int) ≤ 20) (mk : Bool) (hmk : know_Makes.f l t.f0 t.f1 t.f2 = some mk) (hmm : know_Makes.f (l ++ [u]) t.f0 t.f1 t.f2 = some mk) :
    Calls Try.prog 5 #[.slice A0 l.length c0, .agg #[.int .i64 u.f0, .int .i64 u.f1, .slice A1 u.f2.length c1], .agg #[.int .i64 t.f0, .int .i64 t.f1, .slice A2 t.f2.length c2]] w fun e w' => e = .returned (.bool true) ∧ Below w.heap.size w w' := by
  have HR0 := Aside0.mk hr0
  have HC0 := Aside0.mk hc0
  have HR1 := Aside0.mk hr1
  have HC1 := Aside0.mk hc1
  have HR2 := Aside0.mk hr2
  have HC2 := Aside0.mk hc2
  clear hr0 hc0 hr1 hc1 hr2 hc2
  have F1 := Aside0.mk h1
  have F2 := Aside0.mk h2
  have F3 := Aside0.mk h3
  have F4 := Aside0.mk h4
  clear h1 h2 h3 h4
  have HLN := Aside0.mk (show l.length ≤ 20 by omega)
  have FM1 := Aside0.mk hmk
  have FM2 := Aside0.mk hmm
  clear hmk hmm
  go_enter Try.func5, Try.ntmps5
  go_upto_region 7 with (first
    | (go_at_call 10; (with_reducible refine (pelicanlaw06_awake.calls true _ rfl).mono ?_); rintro e w_ ⟨rfl, hb_⟩; have X1 := Aside0.mk (blk_below (two_allocs_ w (.cells #[.int .i64 u.f0, .int .i64 u.f1, .slice A1 u.f2.length c1] 24 (0, 0)) (.cells #[.int .i64 t.f0, .int .i64 t.f1, .slice A2 t.f2.length c2] 24 (0, 0))).1 hb_); have X2 := Aside0.mk (blk_below (two_allocs_ w (.cells #[.int .i64 u.f0, .int .i64 u.f1, .slice A1 u.f2.length c1] 24 (0, 0)) (.cells #[.int .i64 t.f0, .int .i64 t.f1, .slice A2 t.f2.length c2] 24 (0, 0))).2 hb_); have HB := Aside0.mk (below_step (below_alloc (below_alloc (Below.refl w.heap.size w) (.cells #[.int .i64 u.f0, .int .i64 u.f1, .slice A1 u.f2.length c1] 24 (0, 0))) (.cells #[.int .i64 t.f0, .int .i64 t.f1, .slice A2 t.f2.length c2] 24 (0, 0))) hb_); clear hb_; obtain ⟨⟨k0, k1, k2⟩, j0, j1, j2⟩ := cells3 X1.out; obtain ⟨⟨m0, m1, m2⟩, i0, i1, i2⟩ := cells3 X2.out)
    | (go_at_call 11; (with_reducible refine (pelicanref05_LightAll.calls q1 A0 c0 l true _ (Kd.C_below HR0.out HB.out) HC0.out F1.out).mono ?_); rintro e w_ ⟨rfl, hb_⟩; clear k0 k1 k2 j0 j1 j2 m0 m1 m2 i0 i1 i2; have HB := Aside0.mk (below_step HB.out hb_); have X1 := Aside0.mk (blk_below X1.out hb_); have X2 := Aside0.mk (blk_below X2.out hb_); obtain ⟨⟨k0, k1, k2⟩, j0, j1, j2⟩ := cells3 X1.out; obtain ⟨⟨m0, m1, m2⟩, i0, i1, i2⟩ := cells3 X2.out; clear hb_)
    | (go_at_call 12; (with_reducible refine (pelicanref05_Light.calls q2 u.f0 u.f1 A1 c1 u.f2 true _ (Kd.C_below HR1.out HB.out) HC1.out F2.out).mono ?_); rintro e w_ ⟨rfl, hb_⟩; clear k0 k1 k2 j0 j1 j2 m0 m1 m2 i0 i1 i2; have HB := Aside0.mk (below_step HB.out hb_); have X1 := Aside0.mk (blk_below X1.out hb_); have X2 := Aside0.mk (blk_below X2.out hb_); obtain ⟨⟨k0, k1, k2⟩, j0, j1, j2⟩ := cells3 X1.out; obtain ⟨⟨m0, m1, m2⟩, i0, i1, i2⟩ := cells3 X2.out; clear hb_)
    | (go_at_call 12; (with_reducible refine (pelicanref05_Light.calls q3 t.f0 t.f1 A2 c2 t.f2 true _ (Kd.C_below HR2.out HB.out) HC2.out F3.out).mono ?_); rintro e w_ ⟨rfl, hb_⟩; clear k0 k1 k2 j0 j1 j2 m0 m1 m2 i0 i1 i2; have HB := Aside0.mk (below_step HB.out hb_); have X1 := Aside0.mk (blk_below X1.out hb_); have X2 := Aside0.mk (blk_below X2.out hb_); obtain ⟨⟨k0, k1, k2⟩, j0, j1, j2⟩ := cells3 X1.out; obtain ⟨⟨m0, m1, m2⟩, i0, i1, i2⟩ := cells3 X2.out; clear hb_)
    | (go_at_call 21; (with_reducible refine (know_Makes.calls A0 c0 l u.f0 u.f1 A1 c1 u.f2 true _ (Kd.C_below HR0.out HB.out) HC0.out (Kd.C_below HR1.out HB.out) HC1.out F4.out).mono ?_); rintro e w_ ⟨rfl, hb_⟩; clear k0 k1 k2 j0 j1 j2 m0 m1 m2 i0 i1 i2; have HB := Aside0.mk (below_step HB.out hb_); have X1 := Aside0.mk (blk_below X1.out hb_); have X2 := Aside0.mk (blk_below X2.out hb_); obtain ⟨⟨k0, k1, k2⟩, j0, j1, j2⟩ := cells3 X1.out; obtain ⟨⟨m0, m1, m2⟩, i0, i1, i2⟩ := cells3 X2.out; clear hb_))
  obtain ⟨w1, hw1⟩ : ∃ w1, w1 = w_ := ⟨_, rfl⟩
  subst hw1
  have HBd := Aside0.mk (below_drew HB.out)
  have X1d := Aside0.mk (blk_drew X1.out)
  have X2d := Aside0.mk (blk_drew X2.out)
  have HFL := Aside0.mk (Kd.F_below (Kd.C_F k24_heap HR0.out) HBd.out)
  have HFU := Aside0.mk (Kd.F_below (Kd.C_F k24_heap HR1.out) HBd.out)
  have HSZ := Aside0.mk HBd.out.size
  clear k0 k1 k2 j0 j1 j2 m0 m1 m2 i0 i1 i2 HB X1 X2
  obtain ⟨⟨k0, k1, k2⟩, j0, j1, j2⟩ := cells3 X1d.out
  go_cut [11] (fun v13 wc => ∃ (An : Option Addr) (cn : Nat), v13 = .slice An (l.length + 1) cn ∧ Aside0 (l.length + 1 ≤ cn) ∧ Aside0 (Kd.C k24 wc An (l.length + 1) (l ++ [u])) ∧ Aside0 (wc.heap[w.heap.size]? = some (.cells #[.int .i64 u.f0, .int .i64 u.f1, .slice A1 u.f2.length c1] 24 (0, 0))) ∧ Aside0 (wc.heap[w.heap.size + 1]? = some (.cells #[.int .i64 t.f0, .int .i64 t.f1, .slice A2 t.f2.length c2] 24 (0, 0))) ∧ Aside0 (Below w.heap.size w wc))
  case first =>
    refine start_ (n := 6) (S := fun w' => w'.cell? ⟨w.heap.size, 0, none⟩ = some (.int .i64 u.f0) ∧ w'.cell? ⟨w.heap.size, 1, none⟩ = some (.int .i64 u.f1) ∧ w'.cell? ⟨w.heap.size, 2, none⟩ = some (.slice A1 u.f2.length c1)) (ds := []) #[false, false, false, false, false, false] (by kernel_rfl) rfl rfl ⟨k0, k1, k2⟩ (fun hHeld => ?_)
    refine pure_ (i := 0) (N := some 45) (v := ?_) (a' := ?_) #[true, false, false, false, false, false] rfl rfl (by kernel_rfl) (fun _ _ _ h => h) (Or.inl ⟨by rfl, ?_⟩) ?_ ?_
    rotate_left
    · intro w'
      go_simp
      with_reducible rfl
    rotate_left
    · simp only [Act.put, List.setIfInBounds_toArray, List.set_cons_zero, List.set_cons_succ, i64_w, i32_w]
      rfl
    refine take_ (i := 2) (N := some 47) (v := ?_) (a' := ?_) #[true, false, true, false, false, false] rfl rfl (by kernel_rfl) (fun _ _ _ h => h) (Or.inl ⟨by rfl, ?_⟩) hHeld ?_ ?_
    rotate_left
    · rintro w' ⟨s0, s1, s2⟩
      go_simp
      with_reducible rfl
    rotate_left
    · simp only [Act.put, List.setIfInBounds_toArray, List.set_cons_zero, List.set_cons_succ, i64_w, i32_w]
      rfl
    refine two_ (i := 1) (j := 3) (Ni := some 46) (Nj := some 48) #[true, true, true, false, false, false] #[true, false, true, true, false, false] rfl rfl rfl rfl (by kernel_rfl) (by decide) (by decide) (fun K hK => ?_) (fun K hK => ?_)
    · skip
      refine Kd.N_append_rows_step k24 (w0 := w1.drew) w1.drew.heap.size (by rfl) (.const (.slice none 0 0)) (.tmp 45) 22 24 zT 40 (by rfl) Try.underlying22 info24 rfl (by decide) (by omega) (.slice none 0 0) ([] : List S24) l A0 l.length c0 (fun _ => True) (fun k => k < w.heap.size) (by rfl) (by rfl) (Kd.N_nil k24 24 _ _ _) (Kd.F_below HFL.out (Below.refl w1.drew.heap.size w1.drew)) (fun k hk => ⟨trivial, by simp [Value.ownBlock]⟩) (fun k hk => trivial) (Below.refl w1.drew.heap.size w1.drew) (below_size (Below.refl w1.drew.heap.size w1.drew)) (by have := HLN.out; simp; omega) ?_
      intro v' wA hN hb hg hat
      rw [List.nil_append] at hN
      obtain ⟨An, cn, rfl⟩ := Kd.N_slice hN
      have HNA := Aside0.mk hN
      have HBA := Aside0.mk hb
      have HGA := Aside0.mk hg
      have HAA := Aside0.mk hat
      clear hN hb hg hat
      obtain ⟨⟨a0, a1, a2⟩, _⟩ := cells3 (blk_below X1d.out HBA.out)
      refine hK.out _ _ ⟨a0, a1, a2⟩ (fun hHeld => ?_)
      clear hK K
      refine norm_ (a' := ?_) ?_ ?_
      rotate_left
      · show Act.put _ (some 46) _ = _
        simp only [Act.put, List.setIfInBounds_toArray, List.set_cons_zero, List.set_cons_succ, i64_w, i32_w]
        rfl
      refine one_ (i := 3) (N := some 48) #[true, true, true, true, false, false] rfl rfl (by kernel_rfl) (by decide) (fun K hK => ?_)
      refine value_ (w1 := ?_) (v := ?_) (by rfl) rfl ?_ ?_
      rotate_left 2
      · go_simp
        constructor
        · rfl
        · rfl
      obtain ⟨⟨b0, b1, b2⟩, _⟩ := cells3 (blk_alloc (blk_below X1d.out HBA.out) (.cells #[.int .i64 u.f0, .int .i64 u.f1, .slice A1 u.f2.length c1] 24 (0, 0)))
      refine hK.out _ _ ⟨b0, b1, b2⟩ (fun hHeld => ?_)
      clear hK K
      refine norm_ (a' := ?_) ?_ ?_
      rotate_left
      · show Act.put _ (some 48) _ = _
        simp only [Act.put, List.setIfInBounds_toArray, List.set_cons_zero, List.set_cons_succ, i64_w, i32_w]
        rfl
      refine one_ (i := 4) (N := some 49) #[true, true, true, true, true, false] rfl rfl (by kernel_rfl) (by decide) (fun K hK => ?_)
      refine Kd.N_append_step k24 (w0 := w1.drew) w1.drew.heap.size (by rfl) (.tmp 46) (.tmp 48) 22 24 zT 40 (by rfl) Try.underlying22 info24 rfl (by decide) (by omega) (.slice An l.length cn) l u [.int .i64 u.f0, .int .i64 u.f1, .slice A1 u.f2.length c1] (fun _ => True) (fun k => k < w.heap.size) (by rfl) (by rfl) (k24_mkF _ _ u HC1.out (Kd.F_below HFU.out HBA.out)) (fun k hk => ⟨trivial, fun e => by have h1 := Kd.N_base HNA.out k e.symm; have h2 := HSZ.out; omega⟩) (fun k hk => trivial) HNA.out HBA.out (below_size HBA.out) (by have := HLN.out; omega) ?_
      intro v2 wF hN hb hg hat
      obtain ⟨Af, cf, ev, hlf, hCf⟩ := Kd.N_reads hN
      rw [List.length_append, List.length_singleton] at ev hlf hCf
      subst ev
      have HLF := Aside0.mk hlf
      have HCF := Aside0.mk hCf
      have HBF := Aside0.mk hb
      clear hN hb hg hat hlf hCf
      obtain ⟨⟨p0, p1, p2⟩, _⟩ := cells3 (blk_below X1d.out HBF.out)
      refine hK.out _ _ ⟨p0, p1, p2⟩ (fun hHeld => ?_)
      clear hK K
      refine norm_ (a' := ?_) ?_ ?_
      rotate_left
      · show Act.put _ (some 49) _ = _
        simp only [Act.put, List.setIfInBounds_toArray, List.set_cons_zero, List.set_cons_succ, i64_w, i32_w]
        rfl
      refine pure_ (i := 5) (N := some 11) (v := ?_) (a' := ?_) #[true, true, true, true, true, true] rfl rfl (by kernel_rfl) (fun _ _ _ h => h) (Or.inl ⟨by rfl, ?_⟩) ?_ ?_
      rotate_left
      · intro w'
        go_simp
        with_reducible rfl
      rotate_left
      · simp only [Act.put, List.setIfInBounds_toArray, List.set_cons_zero, List.set_cons_succ, i64_w, i32_w]
        rfl
      refine done_ (by kernel_rfl) ?_
      go_wp2
      go_meet
      case rel => exact ⟨_, _, rfl, HLF, HCF, ⟨blk_below X1d.out HBF.out⟩, ⟨blk_below X2d.out HBF.out⟩, ⟨below_step HBd.out HBF.out⟩⟩
    · skip
      refine value_ (w1 := ?_) (v := ?_) (by rfl) rfl ?_ ?_
      rotate_left 2
      · go_simp
        constructor
        · rfl
        · rfl
      obtain ⟨⟨b0, b1, b2⟩, _⟩ := cells3 (blk_alloc X1d.out (.cells #[.int .i64 u.f0, .int .i64 u.f1, .slice A1 u.f2.length c1] 24 (0, 0)))
      refine hK.out _ _ ⟨b0, b1, b2⟩ (fun hHeld => ?_)
      clear hK K
      refine norm_ (a' := ?_) ?_ ?_
      rotate_left
      · show Act.put _ (some 48) _ = _
        simp only [Act.put, List.setIfInBounds_toArray, List.set_cons_zero, List.set_cons_succ, i64_w, i32_w]
        rfl
      refine one_ (i := 1) (N := some 46) #[true, true, true, true, false, false] rfl rfl (by kernel_rfl) (by decide) (fun K hK => ?_)
      refine Kd.N_append_rows_step k24 (w0 := w1.drew) w1.drew.heap.size (by rfl) (.const (.slice none 0 0)) (.tmp 45) 22 24 zT 40 (by rfl) Try.underlying22 info24 rfl (by decide) (by omega) (.slice none 0 0) ([] : List S24) l A0 l.length c0 (fun _ => True) (fun k => k < w.heap.size) (by rfl) (by rfl) (Kd.N_nil k24 24 _ _ _) (Kd.F_below HFL.out (below_alloc (Below.refl w1.drew.heap.size w1.drew) (.cells #[.int .i64 u.f0, .int .i64 u.f1, .slice A1 u.f2.length c1] 24 (0, 0)))) (fun k hk => ⟨trivial, by simp [Value.ownBlock]⟩) (fun k hk => trivial) (below_alloc (Below.refl w1.drew.heap.size w1.drew) (.cells #[.int .i64 u.f0, .int .i64 u.f1, .slice A1 u.f2.length c1] 24 (0, 0))) (below_size (below_alloc (Below.refl w1.drew.heap.size w1.drew) (.cells #[.int .i64 u.f0, .int .i64 u.f1, .slice A1 u.f2.length c1] 24 (0, 0)))) (by have := HLN.out; simp; omega) ?_
      intro v' wA hN hb hg hat
      rw [List.nil_append] at hN
      obtain ⟨An, cn, rfl⟩ := Kd.N_slice hN
      have HNA := Aside0.mk hN
      have HBA := Aside0.mk hb
      have HGA := Aside0.mk hg
      have HAA := Aside0.mk hat
      clear hN hb hg hat
      obtain ⟨⟨a0, a1, a2⟩, _⟩ := cells3 (blk_below X1d.out HBA.out)
      refine hK.out _ _ ⟨a0, a1, a2⟩ (fun hHeld => ?_)
      clear hK K
      refine norm_ (a' := ?_) ?_ ?_
      rotate_left
      · show Act.put _ (some 46) _ = _
        simp only [Act.put, List.setIfInBounds_toArray, List.set_cons_zero, List.set_cons_succ, i64_w, i32_w]
        rfl
      refine one_ (i := 4) (N := some 49) #[true, true, true, true, true, false] rfl rfl (by kernel_rfl) (by decide) (fun K hK => ?_)
      refine Kd.N_append_rows_step k24 (w0 := w1.drew) w1.drew.heap.size (by rfl) (.tmp 46) (.tmp 48) 22 24 zT 40 (by rfl) Try.underlying22 info24 rfl (by decide) (by omega) (.slice An l.length cn) l [u] (some ⟨w1.drew.heap.size, 0, none⟩) 1 1 (fun _ => True) (fun k => k < w.heap.size ∨ k = w1.drew.heap.size) (by rfl) (by rfl) HNA.out (F_one ((HGA.out.block w1.drew.heap.size (blk_lt (blk_new w1.drew (.cells #[.int .i64 u.f0, .int .i64 u.f1, .slice A1 u.f2.length c1] 24 (0, 0)))) (by simp [Value.ownBlock])).trans (blk_new w1.drew (.cells #[.int .i64 u.f0, .int .i64 u.f1, .slice A1 u.f2.length c1] 24 (0, 0)))) HC1.out (Kd.F_below HFU.out HBA.out)) (fun k hk => ⟨trivial, fun e => by have h1 := Kd.N_base HNA.out k e.symm; have h2 := HSZ.out; rcases hk with hk | hk; omega; rcases HAA.out with h3 | ⟨b, h3, h4⟩; rw [← e] at h3; simp [Value.ownBlock] at h3; rw [← e] at h3; injection h3 with h3; have h5 : (w1.drew.alloc (.cells #[.int .i64 u.f0, .int .i64 u.f1, .slice A1 u.f2.length c1] 24 (0, 0))).heap.size = w1.drew.heap.size + 1 := Array.size_push _; have h6 : (w1.drew.alloc (.cells #[.int .i64 u.f0, .int .i64 u.f1, .slice A1 u.f2.length c1] 24 (0, 0))).heap.size ≤ b := h4; omega⟩) (fun k hk => trivial) HBA.out (below_size HBA.out) (by have := HLN.out; omega) ?_
      intro v2 wF hN hb hg hat
      obtain ⟨Af, cf, ev, hlf, hCf⟩ := Kd.N_reads hN
      rw [List.length_append, List.length_singleton] at ev hlf hCf
      subst ev
      have HLF := Aside0.mk hlf
      have HCF := Aside0.mk hCf
      have HBF := Aside0.mk hb
      clear hN hb hg hat hlf hCf
      obtain ⟨⟨p0, p1, p2⟩, _⟩ := cells3 (blk_below X1d.out HBF.out)
      refine hK.out _ _ ⟨p0, p1, p2⟩ (fun hHeld => ?_)
      clear hK K
      refine norm_ (a' := ?_) ?_ ?_
      rotate_left
      · show Act.put _ (some 49) _ = _
        simp only [Act.put, List.setIfInBounds_toArray, List.set_cons_zero, List.set_cons_succ, i64_w, i32_w]
        rfl
      refine pure_ (i := 5) (N := some 11) (v := ?_) (a' := ?_) #[true, true, true, true, true, true] rfl rfl (by kernel_rfl) (fun _ _ _ h => h) (Or.inl ⟨by rfl, ?_⟩) ?_ ?_
      rotate_left
      · intro w'
        go_simp
        with_reducible rfl
      rotate_left
      · simp only [Act.put, List.setIfInBounds_toArray, List.set_cons_zero, List.set_cons_succ, i64_w, i32_w]
        rfl
      refine done_ (by kernel_rfl) ?_
      go_wp2
      go_meet
      case rel => exact ⟨_, _, rfl, HLF, HCF, ⟨blk_below X1d.out HBF.out⟩, ⟨blk_below X2d.out HBF.out⟩, ⟨below_step HBd.out HBF.out⟩⟩
  case rest =>
    clear HBd X1d X2d HFL HFU HSZ k0 k1 k2 j0 j1 j2
    obtain ⟨An, cn, rfl, HLM, HCM, X1, X2, HB⟩ := hcut
    obtain ⟨⟨k0, k1, k2⟩, j0, j1, j2⟩ := cells3 X1.out
    obtain ⟨⟨m0, m1, m2⟩, i0, i1, i2⟩ := cells3 X2.out
    go_wp2
    have HBd := Aside0.mk (below_drew HB.out)
    have X1d := Aside0.mk (blk_drew X1.out)
    have X2d := Aside0.mk (blk_drew X2.out)
    have HCMd := Aside0.mk (Kd.C_drew HCM.out)
    clear HB X1 X2 HCM k0 k1 k2 j0 j1 j2 m0 m1 m2 i0 i1 i2
    have HB := HBd
    have X1 := X1d
    have X2 := X2d
    have HCM := HCMd
    clear HBd X1d X2d HCMd
    obtain ⟨⟨k0, k1, k2⟩, j0, j1, j2⟩ := cells3 X1.out
    obtain ⟨⟨m0, m1, m2⟩, i0, i1, i2⟩ := cells3 X2.out
    go_region_held3 (fun w' => w'.cell? ⟨w.heap.size + 1, 0, none⟩ = some (.int .i64 t.f0) ∧ w'.cell? ⟨w.heap.size + 1, 1, none⟩ = some (.int .i64 t.f1) ∧ w'.cell? ⟨w.heap.size + 1, 2, none⟩ = some (.slice A2 t.f2.length c2)) (first | exact ⟨m0, m1, m2⟩ | go_keep)
      (first
        | (go_at_call 21; (with_reducible refine (makes_n _ An (l.length + 1) cn (l ++ [u]) (by simp) HLM.out HCM.out t.f0 t.f1 A2 t.f2.length c2 t.f2 rfl HC2.out (Kd.C_below HR2.out HB.out) mk FM2.out).mono ?_); rintro e w_ ⟨rfl, hb_⟩; clear k0 k1 k2 j0 j1 j2 m0 m1 m2 i0 i1 i2; have HB := Aside0.mk (below_step HB.out hb_); have X1 := Aside0.mk (blk_below X1.out hb_); have X2 := Aside0.mk (blk_below X2.out hb_); have HCM := Aside0.mk (Kd.C_below HCM.out hb_); obtain ⟨⟨k0, k1, k2⟩, j0, j1, j2⟩ := cells3 X1.out; obtain ⟨⟨m0, m1, m2⟩, i0, i1, i2⟩ := cells3 X2.out; clear hb_)
        | (go_at_call 21; (with_reducible refine (know_Makes.calls A0 c0 l t.f0 t.f1 A2 c2 t.f2 mk _ (Kd.C_below HR0.out HB.out) HC0.out (Kd.C_below HR2.out HB.out) HC2.out FM1.out).mono ?_); rintro e w_ ⟨rfl, hb_⟩; clear k0 k1 k2 j0 j1 j2 m0 m1 m2 i0 i1 i2; have HB := Aside0.mk (below_step HB.out hb_); have X1 := Aside0.mk (blk_below X1.out hb_); have X2 := Aside0.mk (blk_below X2.out hb_); have HCM := Aside0.mk (Kd.C_below HCM.out hb_); obtain ⟨⟨k0, k1, k2⟩, j0, j1, j2⟩ := cells3 X1.out; obtain ⟨⟨m0, m1, m2⟩, i0, i1, i2⟩ := cells3 X2.out; clear hb_))
    go_wp2
    go_ret
    exact ⟨by simp, HB.out⟩
theorem makes_cut {l : List S24} {u t : S24} (hm : mayL (l ++ [u]) = true) (h : makesB l u = true) : makesB (l ++ [u]) t = makesB l t := by
  obtain ⟨h1, h2, h3⟩ := (makesB_iff _ _).1 h
  rw [Bool.eq_iff_iff]
  constructor
  · intro h4
    obtain ⟨_, h5, h6⟩ := (makesB_iff _ _).1 h4
    refine (makesB_iff _ _).2 ⟨h1, h5, missT_sub (fun z hz => ?_) t h6⟩
    rcases (mem_parts_app _ _ _).1 hz with hz | hz
    · exact made_in hz
    · exact made_reach l u h3 z ((mem_parts_one _ _).1 hz)
  · exact makes_more hm
theorem pelicanlaw06_KnowCut_in (l : List S24) (u t : S24) (A0 A1 A2 : Option Addr) (c0 c1 c2 : Nat) (w : World) (hr0 : Kd.C k24 w A0 l.length l) (hc0 : l.length ≤ c0) (hr1 : Kd.C k24 w A1 u.f2.length u.f2) (hc1 : u.f2.length ≤ c1) (hr2 : Kd.C k24 w A2 t.f2.length t.f2) (hc2 : t.f2.length ≤ c2) :
    Calls Try.prog 5 #[.slice A0 l.length c0, .agg #[.int .i64 u.f0, .int .i64 u.f1, .slice A1 u.f2.length c1], .agg #[.int .i64 t.f0, .int .i64 t.f1, .slice A2 t.f2.length c2]] w fun e w' => e = .returned (.bool true) ∧ Below w.heap.size w w' := by
  obtain ⟨q1, hq1⟩ := Ev.rounds (lightAll_ev l)
  obtain ⟨q2, hq2⟩ := Ev.rounds (light_ev u)
  obtain ⟨q3, hq3⟩ := Ev.rounds (light_ev t)
  cases e1 : lightL l with
  | false => rw [e1] at hq1; exact cut_o1 l u t A0 A1 A2 c0 c1 c2 w hr0 hc0 hr1 hc1 hr2 hc2 q1 q2 q3 _ _ hq1 hq2 hq3
  | true =>
    rw [e1] at hq1
    by_cases e2 : tsize u ≤ 150 ∧ tdep u ≤ 20
    · rw [decide_eq_true e2] at hq2
      by_cases e3 : tsize t ≤ 150 ∧ tdep t ≤ 20
      · rw [decide_eq_true e3] at hq3
        by_cases hl : 20 < l.length
        · exact cut_len l u t A0 A1 A2 c0 c1 c2 w hr0 hc0 hr1 hc1 hr2 hc2 q1 q2 q3 hq1 hq2 hq3 (by omega)
        · obtain ⟨hz, hs⟩ := light_size e1
          have hz6 : lsize l ≤ 1000000 := by omega
          have hs6 : ∀ z ∈ l, tsize z ≤ 1000000 := fun z hz => by have := hs z hz; omega
          have h4 := makes_f l u hz6 (by omega)
          cases b4 : makesB l u with
          | false => rw [b4] at h4; exact cut_o4 l u t A0 A1 A2 c0 c1 c2 w hr0 hc0 hr1 hc1 hr2 hc2 q1 q2 q3 hq1 hq2 hq3 h4 (by omega)
          | true =>
            rw [b4] at h4
            obtain ⟨hm, hu, _⟩ := (makesB_iff _ _).1 b4
            have hm2 : mayL (l ++ [u]) = true := mayL_app hm hs6 (fun x hx => by rw [List.mem_singleton] at hx; subst hx; exact hu) (by simp; omega)
            exact cut_main l u t A0 A1 A2 c0 c1 c2 w hr0 hc0 hr1 hc1 hr2 hc2 q1 q2 q3 hq1 hq2 hq3 h4 (by omega) (makesB l t) (makes_f l t hz6 (by omega)) (by rw [makes_f (l ++ [u]) t (by rw [lsize_snoc]; omega) (by omega), makes_cut hm2 b4])
      · rw [decide_eq_false e3] at hq3
        exact cut_o3 l u t A0 A1 A2 c0 c1 c2 w hr0 hc0 hr1 hc1 hr2 hc2 q1 q2 q3 hq1 hq2 hq3
    · rw [decide_eq_false e2] at hq2
      exact cut_o2 l u t A0 A1 A2 c0 c1 c2 w hr0 hc0 hr1 hc1 hr2 hc2 q1 q2 q3 _ hq1 hq2 hq3
def pelicanlaw06_KnowCut.f (l0 : List (S24)) (a1_0 : Int) (a1_1 : Int) (l1_2 : List (S24)) (a2_0 : Int) (a2_1 : Int) (l2_2 : List (S24)) : Option (Bool) := some true
theorem pelicanlaw06_KnowCut.calls (A0 : Option Addr) (c0 : Nat) (l0 : List (S24)) (a1_0 : Int) (a1_1 : Int) (A1_2 : Option Addr) (c1_2 : Nat) (l1_2 : List (S24)) (a2_0 : Int) (a2_1 : Int) (A2_2 : Option Addr) (c2_2 : Nat) (l2_2 : List (S24)) (r : Bool) (w : World) (hr0 : Kd.C k24 w A0 l0.length l0) (hc0 : l0.length ≤ c0) (hr1_2 : Kd.C k24 w A1_2 l1_2.length l1_2) (hc1_2 : l1_2.length ≤ c1_2) (hr2_2 : Kd.C k24 w A2_2 l2_2.length l2_2) (hc2_2 : l2_2.length ≤ c2_2) (h : pelicanlaw06_KnowCut.f l0 a1_0 a1_1 l1_2 a2_0 a2_1 l2_2 = some r) (hr_0 : r = true) :
    Calls Try.prog 5 #[.slice A0 l0.length c0, .agg #[.int .i64 a1_0, .int .i64 a1_1, .slice A1_2 l1_2.length c1_2], .agg #[.int .i64 a2_0, .int .i64 a2_1, .slice A2_2 l2_2.length c2_2]] w fun e w' => e = .returned (.bool r) ∧ Below w.heap.size w w' := by
  subst hr_0
  exact pelicanlaw06_KnowCut_in l0 ⟨a1_0, a1_1, l1_2⟩ ⟨a2_0, a2_1, l2_2⟩ A0 A1_2 A2_2 c0 c1_2 c2_2 w hr0 hc0 hr1_2 hc1_2 hr2_2 hc2_2
end Go.Proofs.Ytfonjmggalkbjaa.P

