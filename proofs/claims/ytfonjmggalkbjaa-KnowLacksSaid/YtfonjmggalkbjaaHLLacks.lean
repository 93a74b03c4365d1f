/- By hand: the law KnowLacks' walk. -/
import Derived.Test.YtfonjmggalkbjaaHMore
namespace Go.Proofs.Ytfonjmggalkbjaa.P
open Go.RowKit Go.Proofs.YtfonjmggalkbjaaW.PrintWords Go.Proofs.YtfonjmggalkbjaaW.PrintLast Go.Proofs.YtfonjmggalkbjaaW.PrintMore
set_option linter.unusedVariables false
set_option linter.unusedSimpArgs false
set_option maxRecDepth 100000 in
set_option maxHeartbeats 4000000 in
theorem ll_o1 (l : List S24) (t : S24) (A0 A2 : Option Addr) (c0 c2 : Nat) (w : World) (hr0 : Kd.C k24 w A0 l.length l) (hc0 : l.length ≤ c0) (hr2 : Kd.C k24 w A2 t.f2.length t.f2) (hc2 : t.f2.length ≤ c2) (q1 q3 : Nat) (b2 : Bool) (b3 : Bool) (b4 : Bool) (h1 : pelicanref05_LightAll.f q1 l = some false) (h2 : pelicanref05_Light.f q3 t.f0 t.f1 t.f2 = some b2) (h3 : know_May.f l = some b3) (h4 : term_May.f t.f0 t.f1 t.f2 = some b4)  :
    Calls Try.prog 8 #[.slice A0 l.length c0, .agg #[.int .i64 t.f0, .int .i64 t.f1, .slice A2 t.f2.length c2]] w fun e w' => e = .returned (.bool true) ∧ Below w.heap.size w w' := by
  have HR0 := Aside0.mk hr0
  have HC0 := Aside0.mk hc0
  have HR2 := Aside0.mk hr2
  have HC2 := Aside0.mk hc2
  clear hr0 hc0 hr2 hc2
  have F1 := Aside0.mk h1
  have F2 := Aside0.mk h2
  have F3 := Aside0.mk h3
  have F4 := Aside0.mk h4
  clear h1 h2 h3 h4
  go_enter Try.func8, Try.ntmps8
  go_wp2_with (first
    | (go_at_call 10; (with_reducible refine (pelicanlaw06_awake.calls true _ rfl).mono ?_); rintro e w_ ⟨rfl, hb_⟩; have X1 := Aside0.mk (blk_below (blk_new w (.cells #[.int .i64 t.f0, .int .i64 t.f1, .slice A2 t.f2.length c2] 24 (0, 0))) hb_); have HB := Aside0.mk (below_step (below_alloc (Below.refl w.heap.size w) (.cells #[.int .i64 t.f0, .int .i64 t.f1, .slice A2 t.f2.length c2] 24 (0, 0))) hb_); clear hb_; obtain ⟨⟨k0, k1, k2⟩, j0, j1, j2⟩ := cells3 X1.out)
    | (go_at_call 11; (with_reducible refine (pelicanref05_LightAll.calls q1 A0 c0 l false _ (Kd.C_below HR0.out HB.out) HC0.out F1.out).mono ?_); rintro e w_ ⟨rfl, hb_⟩; clear k0 k1 k2 j0 j1 j2; have HB := Aside0.mk (below_step HB.out hb_); have X1 := Aside0.mk (blk_below X1.out hb_); obtain ⟨⟨k0, k1, k2⟩, j0, j1, j2⟩ := cells3 X1.out; clear hb_)
    | (go_at_call 12; (with_reducible refine (pelicanref05_Light.calls q3 t.f0 t.f1 A2 c2 t.f2 b2 _ (Kd.C_below HR2.out HB.out) HC2.out F2.out).mono ?_); rintro e w_ ⟨rfl, hb_⟩; clear k0 k1 k2 j0 j1 j2; have HB := Aside0.mk (below_step HB.out hb_); have X1 := Aside0.mk (blk_below X1.out hb_); obtain ⟨⟨k0, k1, k2⟩, j0, j1, j2⟩ := cells3 X1.out; clear hb_)
    | (go_at_call 20; (with_reducible refine (know_May.calls A0 c0 l b3 _ (Kd.C_below HR0.out HB.out) HC0.out F3.out).mono ?_); rintro e w_ ⟨rfl, hb_⟩; clear k0 k1 k2 j0 j1 j2; have HB := Aside0.mk (below_step HB.out hb_); have X1 := Aside0.mk (blk_below X1.out hb_); obtain ⟨⟨k0, k1, k2⟩, j0, j1, j2⟩ := cells3 X1.out; clear hb_)
    | (go_at_call 23; (with_reducible refine (term_May.calls t.f0 t.f1 A2 c2 t.f2 b4 _ (Kd.C_below HR2.out HB.out) HC2.out F4.out).mono ?_); rintro e w_ ⟨rfl, hb_⟩; clear k0 k1 k2 j0 j1 j2; have HB := Aside0.mk (below_step HB.out hb_); have X1 := Aside0.mk (blk_below X1.out hb_); obtain ⟨⟨k0, k1, k2⟩, j0, j1, j2⟩ := cells3 X1.out; clear hb_))
  go_ret
  exact ⟨rfl, HB.out⟩
set_option maxRecDepth 100000 in
set_option maxHeartbeats 4000000 in
theorem ll_o2 (l : List S24) (t : S24) (A0 A2 : Option Addr) (c0 c2 : Nat) (w : World) (hr0 : Kd.C k24 w A0 l.length l) (hc0 : l.length ≤ c0) (hr2 : Kd.C k24 w A2 t.f2.length t.f2) (hc2 : t.f2.length ≤ c2) (q1 q3 : Nat) (b3 : Bool) (b4 : Bool) (h1 : pelicanref05_LightAll.f q1 l = some true) (h2 : pelicanref05_Light.f q3 t.f0 t.f1 t.f2 = some false) (h3 : know_May.f l = some b3) (h4 : term_May.f t.f0 t.f1 t.f2 = some b4)  :
    Calls Try.prog 8 #[.slice A0 l.length c0, .agg #[.int .i64 t.f0, .int .i64 t.f1, .slice A2 t.f2.length c2]] w fun e w' => e = .returned (.bool true) ∧ Below w.heap.size w w' := by
  have HR0 := Aside0.mk hr0
  have HC0 := Aside0.mk hc0
  have HR2 := Aside0.mk hr2
  have HC2 := Aside0.mk hc2
  clear hr0 hc0 hr2 hc2
  have F1 := Aside0.mk h1
  have F2 := Aside0.mk h2
  have F3 := Aside0.mk h3
  have F4 := Aside0.mk h4
  clear h1 h2 h3 h4
  go_enter Try.func8, Try.ntmps8
  go_wp2_with (first
    | (go_at_call 10; (with_reducible refine (pelicanlaw06_awake.calls true _ rfl).mono ?_); rintro e w_ ⟨rfl, hb_⟩; have X1 := Aside0.mk (blk_below (blk_new w (.cells #[.int .i64 t.f0, .int .i64 t.f1, .slice A2 t.f2.length c2] 24 (0, 0))) hb_); have HB := Aside0.mk (below_step (below_alloc (Below.refl w.heap.size w) (.cells #[.int .i64 t.f0, .int .i64 t.f1, .slice A2 t.f2.length c2] 24 (0, 0))) hb_); clear hb_; obtain ⟨⟨k0, k1, k2⟩, j0, j1, j2⟩ := cells3 X1.out)
    | (go_at_call 11; (with_reducible refine (pelicanref05_LightAll.calls q1 A0 c0 l true _ (Kd.C_below HR0.out HB.out) HC0.out F1.out).mono ?_); rintro e w_ ⟨rfl, hb_⟩; clear k0 k1 k2 j0 j1 j2; have HB := Aside0.mk (below_step HB.out hb_); have X1 := Aside0.mk (blk_below X1.out hb_); obtain ⟨⟨k0, k1, k2⟩, j0, j1, j2⟩ := cells3 X1.out; clear hb_)
    | (go_at_call 12; (with_reducible refine (pelicanref05_Light.calls q3 t.f0 t.f1 A2 c2 t.f2 false _ (Kd.C_below HR2.out HB.out) HC2.out F2.out).mono ?_); rintro e w_ ⟨rfl, hb_⟩; clear k0 k1 k2 j0 j1 j2; have HB := Aside0.mk (below_step HB.out hb_); have X1 := Aside0.mk (blk_below X1.out hb_); obtain ⟨⟨k0, k1, k2⟩, j0, j1, j2⟩ := cells3 X1.out; clear hb_)
    | (go_at_call 20; (with_reducible refine (know_May.calls A0 c0 l b3 _ (Kd.C_below HR0.out HB.out) HC0.out F3.out).mono ?_); rintro e w_ ⟨rfl, hb_⟩; clear k0 k1 k2 j0 j1 j2; have HB := Aside0.mk (below_step HB.out hb_); have X1 := Aside0.mk (blk_below X1.out hb_); obtain ⟨⟨k0, k1, k2⟩, j0, j1, j2⟩ := cells3 X1.out; clear hb_)
    | (go_at_call 23; (with_reducible refine (term_May.calls t.f0 t.f1 A2 c2 t.f2 b4 _ (Kd.C_below HR2.out HB.out) HC2.out F4.out).mono ?_); rintro e w_ ⟨rfl, hb_⟩; clear k0 k1 k2 j0 j1 j2; have HB := Aside0.mk (below_step HB.out hb_); have X1 := Aside0.mk (blk_below X1.out hb_); obtain ⟨⟨k0, k1, k2⟩, j0, j1, j2⟩ := cells3 X1.out; clear hb_))
  go_ret
  exact ⟨rfl, HB.out⟩
set_option maxRecDepth 100000 in
set_option maxHeartbeats 4000000 in
theorem ll_len (l : List S24) (t : S24) (A0 A2 : Option Addr) (c0 c2 : Nat) (w : World) (hr0 : Kd.C k24 w A0 l.length l) (hc0 : l.length ≤ c0) (hr2 : Kd.C k24 w A2 t.f2.length t.f2) (hc2 : t.f2.length ≤ c2) (q1 q3 : Nat) (b3 : Bool) (b4 : Bool) (h1 : pelicanref05_LightAll.f q1 l = some true) (h2 : pelicanref05_Light.f q3 t.f0 t.f1 t.f2 = some true) (h3 : know_May.f l = some b3) (h4 : term_May.f t.f0 t.f1 t.f2 = some b4) (d : (9 : Int) < (l.length : Int)) :
    Calls Try.prog 8 #[.slice A0 l.length c0, .agg #[.int .i64 t.f0, .int .i64 t.f1, .slice A2 t.f2.length c2]] w fun e w' => e = .returned (.bool true) ∧ Below w.heap.size w w' := by
  have HR0 := Aside0.mk hr0
  have HC0 := Aside0.mk hc0
  have HR2 := Aside0.mk hr2
  have HC2 := Aside0.mk hc2
  clear hr0 hc0 hr2 hc2
  have F1 := Aside0.mk h1
  have F2 := Aside0.mk h2
  have F3 := Aside0.mk h3
  have F4 := Aside0.mk h4
  clear h1 h2 h3 h4
  go_enter Try.func8, Try.ntmps8
  go_wp2_with (first
    | (go_at_call 10; (with_reducible refine (pelicanlaw06_awake.calls true _ rfl).mono ?_); rintro e w_ ⟨rfl, hb_⟩; have X1 := Aside0.mk (blk_below (blk_new w (.cells #[.int .i64 t.f0, .int .i64 t.f1, .slice A2 t.f2.length c2] 24 (0, 0))) hb_); have HB := Aside0.mk (below_step (below_alloc (Below.refl w.heap.size w) (.cells #[.int .i64 t.f0, .int .i64 t.f1, .slice A2 t.f2.length c2] 24 (0, 0))) hb_); clear hb_; obtain ⟨⟨k0, k1, k2⟩, j0, j1, j2⟩ := cells3 X1.out)
    | (go_at_call 11; (with_reducible refine (pelicanref05_LightAll.calls q1 A0 c0 l true _ (Kd.C_below HR0.out HB.out) HC0.out F1.out).mono ?_); rintro e w_ ⟨rfl, hb_⟩; clear k0 k1 k2 j0 j1 j2; have HB := Aside0.mk (below_step HB.out hb_); have X1 := Aside0.mk (blk_below X1.out hb_); obtain ⟨⟨k0, k1, k2⟩, j0, j1, j2⟩ := cells3 X1.out; clear hb_)
    | (go_at_call 12; (with_reducible refine (pelicanref05_Light.calls q3 t.f0 t.f1 A2 c2 t.f2 true _ (Kd.C_below HR2.out HB.out) HC2.out F2.out).mono ?_); rintro e w_ ⟨rfl, hb_⟩; clear k0 k1 k2 j0 j1 j2; have HB := Aside0.mk (below_step HB.out hb_); have X1 := Aside0.mk (blk_below X1.out hb_); obtain ⟨⟨k0, k1, k2⟩, j0, j1, j2⟩ := cells3 X1.out; clear hb_)
    | (go_at_call 20; (with_reducible refine (know_May.calls A0 c0 l b3 _ (Kd.C_below HR0.out HB.out) HC0.out F3.out).mono ?_); rintro e w_ ⟨rfl, hb_⟩; clear k0 k1 k2 j0 j1 j2; have HB := Aside0.mk (below_step HB.out hb_); have X1 := Aside0.mk (blk_below X1.out hb_); obtain ⟨⟨k0, k1, k2⟩, j0, j1, j2⟩ := cells3 X1.out; clear hb_)
    | (go_at_call 23; (with_reducible refine (term_May.calls t.f0 t.f1 A2 c2 t.f2 b4 _ (Kd.C_below HR2.out HB.out) HC2.out F4.out).mono ?_); rintro e w_ ⟨rfl, hb_⟩; clear k0 k1 k2 j0 j1 j2; have HB := Aside0.mk (below_step HB.out hb_); have X1 := Aside0.mk (blk_below X1.out hb_); obtain ⟨⟨k0, k1, k2⟩, j0, j1, j2⟩ := cells3 X1.out; clear hb_))
  go_ret
  exact ⟨rfl, HB.out⟩
set_option maxRecDepth 100000 in
set_option maxHeartbeats 4000000 in
theorem ll_o3 (l : List S24) (t : S24) (A0 A2 : Option Addr) (c0 c2 : Nat) (w : World) (hr0 : Kd.C k24 w A0 l.length l) (hc0 : l.length ≤ c0) (hr2 : Kd.C k24 w A2 t.f2.length t.f2) (hc2 : t.f2.length ≤ c2) (q1 q3 : Nat) (b4 : Bool) (h1 : pelicanref05_LightAll.f q1 l = some true) (h2 : pelicanref05_Light.f q3 t.f0 t.f1 t.f2 = some true) (h3 : know_May.f l = some false) (h4 : term_May.f t.f0 t.f1 t.f2 = some b4) (d : (l.length : Int) ≤ 9) :
    Calls Try.prog 8 #[.slice A0 l.length c0, .agg #[.int .i64 t.f0, .int .i64 t.f1, .slice A2 t.f2.length c2]] w fun e w' => e = .returned (.bool true) ∧ Below w.heap.size w w' := by
  have HR0 := Aside0.mk hr0
  have HC0 := Aside0.mk hc0
  have HR2 := Aside0.mk hr2
  have HC2 := Aside0.mk hc2
  clear hr0 hc0 hr2 hc2
  have F1 := Aside0.mk h1
  have F2 := Aside0.mk h2
  have F3 := Aside0.mk h3
  have F4 := Aside0.mk h4
  clear h1 h2 h3 h4
  go_enter Try.func8, Try.ntmps8
  go_wp2_with (first
    | (go_at_call 10; (with_reducible refine (pelicanlaw06_awake.calls true _ rfl).mono ?_); rintro e w_ ⟨rfl, hb_⟩; have X1 := Aside0.mk (blk_below (blk_new w (.cells #[.int .i64 t.f0, .int .i64 t.f1, .slice A2 t.f2.length c2] 24 (0, 0))) hb_); have HB := Aside0.mk (below_step (below_alloc (Below.refl w.heap.size w) (.cells #[.int .i64 t.f0, .int .i64 t.f1, .slice A2 t.f2.length c2] 24 (0, 0))) hb_); clear hb_; obtain ⟨⟨k0, k1, k2⟩, j0, j1, j2⟩ := cells3 X1.out)
    | (go_at_call 11; (with_reducible refine (pelicanref05_LightAll.calls q1 A0 c0 l true _ (Kd.C_below HR0.out HB.out) HC0.out F1.out).mono ?_); rintro e w_ ⟨rfl, hb_⟩; clear k0 k1 k2 j0 j1 j2; have HB := Aside0.mk (below_step HB.out hb_); have X1 := Aside0.mk (blk_below X1.out hb_); obtain ⟨⟨k0, k1, k2⟩, j0, j1, j2⟩ := cells3 X1.out; clear hb_)
    | (go_at_call 12; (with_reducible refine (pelicanref05_Light.calls q3 t.f0 t.f1 A2 c2 t.f2 true _ (Kd.C_below HR2.out HB.out) HC2.out F2.out).mono ?_); rintro e w_ ⟨rfl, hb_⟩; clear k0 k1 k2 j0 j1 j2; have HB := Aside0.mk (below_step HB.out hb_); have X1 := Aside0.mk (blk_below X1.out hb_); obtain ⟨⟨k0, k1, k2⟩, j0, j1, j2⟩ := cells3 X1.out; clear hb_)
    | (go_at_call 20; (with_reducible refine (know_May.calls A0 c0 l false _ (Kd.C_below HR0.out HB.out) HC0.out F3.out).mono ?_); rintro e w_ ⟨rfl, hb_⟩; clear k0 k1 k2 j0 j1 j2; have HB := Aside0.mk (below_step HB.out hb_); have X1 := Aside0.mk (blk_below X1.out hb_); obtain ⟨⟨k0, k1, k2⟩, j0, j1, j2⟩ := cells3 X1.out; clear hb_)
    | (go_at_call 23; (with_reducible refine (term_May.calls t.f0 t.f1 A2 c2 t.f2 b4 _ (Kd.C_below HR2.out HB.out) HC2.out F4.out).mono ?_); rintro e w_ ⟨rfl, hb_⟩; clear k0 k1 k2 j0 j1 j2; have HB := Aside0.mk (below_step HB.out hb_); have X1 := Aside0.mk (blk_below X1.out hb_); obtain ⟨⟨k0, k1, k2⟩, j0, j1, j2⟩ := cells3 X1.out; clear hb_))
  go_ret
  exact ⟨rfl, HB.out⟩
set_option maxRecDepth 100000 in
set_option maxHeartbeats 4000000 in
theorem ll_o4 (l : List S24) (t : S24) (A0 A2 : Option Addr) (c0 c2 : Nat) (w : World) (hr0 : Kd.C k24 w A0 l.length l) (hc0 : l.length ≤ c0) (hr2 : Kd.C k24 w A2 t.f2.length t.f2) (hc2 : t.f2.length ≤ c2) (q1 q3 : Nat)  (h1 : pelicanref05_LightAll.f q1 l = some true) (h2 : pelicanref05_Light.f q3 t.f0 t.f1 t.f2 = some true) (h3 : know_May.f l = some true) (h4 : term_May.f t.f0 t.f1 t.f2 = some false) (d : (l.length : Int) ≤ 9) :
    Calls Try.prog 8 #[.slice A0 l.length c0, .agg #[.int .i64 t.f0, .int .i64 t.f1, .slice A2 t.f2.length c2]] w fun e w' => e = .returned (.bool true) ∧ Below w.heap.size w w' := by
  have HR0 := Aside0.mk hr0
  have HC0 := Aside0.mk hc0
  have HR2 := Aside0.mk hr2
  have HC2 := Aside0.mk hc2
  clear hr0 hc0 hr2 hc2
  have F1 := Aside0.mk h1
  have F2 := Aside0.mk h2
  have F3 := Aside0.mk h3
  have F4 := Aside0.mk h4
  clear h1 h2 h3 h4
  go_enter Try.func8, Try.ntmps8
  go_wp2_with (first
    | (go_at_call 10; (with_reducible refine (pelicanlaw06_awake.calls true _ rfl).mono ?_); rintro e w_ ⟨rfl, hb_⟩; have X1 := Aside0.mk (blk_below (blk_new w (.cells #[.int .i64 t.f0, .int .i64 t.f1, .slice A2 t.f2.length c2] 24 (0, 0))) hb_); have HB := Aside0.mk (below_step (below_alloc (Below.refl w.heap.size w) (.cells #[.int .i64 t.f0, .int .i64 t.f1, .slice A2 t.f2.length c2] 24 (0, 0))) hb_); clear hb_; obtain ⟨⟨k0, k1, k2⟩, j0, j1, j2⟩ := cells3 X1.out)
    | (go_at_call 11; (with_reducible refine (pelicanref05_LightAll.calls q1 A0 c0 l true _ (Kd.C_below HR0.out HB.out) HC0.out F1.out).mono ?_); rintro e w_ ⟨rfl, hb_⟩; clear k0 k1 k2 j0 j1 j2; have HB := Aside0.mk (below_step HB.out hb_); have X1 := Aside0.mk (blk_below X1.out hb_); obtain ⟨⟨k0, k1, k2⟩, j0, j1, j2⟩ := cells3 X1.out; clear hb_)
    | (go_at_call 12; (with_reducible refine (pelicanref05_Light.calls q3 t.f0 t.f1 A2 c2 t.f2 true _ (Kd.C_below HR2.out HB.out) HC2.out F2.out).mono ?_); rintro e w_ ⟨rfl, hb_⟩; clear k0 k1 k2 j0 j1 j2; have HB := Aside0.mk (below_step HB.out hb_); have X1 := Aside0.mk (blk_below X1.out hb_); obtain ⟨⟨k0, k1, k2⟩, j0, j1, j2⟩ := cells3 X1.out; clear hb_)
    | (go_at_call 20; (with_reducible refine (know_May.calls A0 c0 l true _ (Kd.C_below HR0.out HB.out) HC0.out F3.out).mono ?_); rintro e w_ ⟨rfl, hb_⟩; clear k0 k1 k2 j0 j1 j2; have HB := Aside0.mk (below_step HB.out hb_); have X1 := Aside0.mk (blk_below X1.out hb_); obtain ⟨⟨k0, k1, k2⟩, j0, j1, j2⟩ := cells3 X1.out; clear hb_)
    | (go_at_call 23; (with_reducible refine (term_May.calls t.f0 t.f1 A2 c2 t.f2 false _ (Kd.C_below HR2.out HB.out) HC2.out F4.out).mono ?_); rintro e w_ ⟨rfl, hb_⟩; clear k0 k1 k2 j0 j1 j2; have HB := Aside0.mk (below_step HB.out hb_); have X1 := Aside0.mk (blk_below X1.out hb_); obtain ⟨⟨k0, k1, k2⟩, j0, j1, j2⟩ := cells3 X1.out; clear hb_))
  go_ret
  exact ⟨rfl, HB.out⟩
set_option maxRecDepth 100000 in
set_option maxHeartbeats 4000000 in
theorem ll_main (l : List S24) (t : S24) (A0 A2 : Option Addr) (c0 c2 : Nat) (w : World) (hr0 : Kd.C k24 w A0 l.length l) (hc0 : l.length ≤ c0) (hr2 : Kd.C k24 w A2 t.f2.length t.f2) (hc2 : t.f2.length ≤ c2) (q1 q3 : Nat)  (h1 : pelicanref05_LightAll.f q1 l = some true) (h2 : pelicanref05_Light.f q3 t.f0 t.f1 t.f2 = some true) (h3 : know_May.f l = some true) (h4 : term_May.f t.f0 t.f1 t.f2 = some true) (dl : (l.length : Int) ≤ 9) (xs : List S24) (mk : Bool) (hx : know_Lacks.f l t.f0 t.f1 t.f2 = some xs) (hxl : xs.length ≤ 30) (hk : ∀ y ∈ xs, y.f0 = 1 ∧ know_Makes.f l y.f0 y.f1 y.f2 = some false) (hmk : know_Makes.f l t.f0 t.f1 t.f2 = some mk) (hg : ((xs.length : Int) == 0) = mk) (hmm : know_Makes.f (l ++ xs) t.f0 t.f1 t.f2 = some true) :
    Calls Try.prog 8 #[.slice A0 l.length c0, .agg #[.int .i64 t.f0, .int .i64 t.f1, .slice A2 t.f2.length c2]] w fun e w' => e = .returned (.bool true) ∧ Below w.heap.size w w' := by
  have HR0 := Aside0.mk hr0
  have HC0 := Aside0.mk hc0
  have HR2 := Aside0.mk hr2
  have HC2 := Aside0.mk hc2
  clear hr0 hc0 hr2 hc2
  have F1 := Aside0.mk h1
  have F2 := Aside0.mk h2
  have F3 := Aside0.mk h3
  have F4 := Aside0.mk h4
  clear h1 h2 h3 h4
  have HLN := Aside0.mk (show l.length ≤ 9 by omega)
  have HXL := Aside0.mk hxl
  have FX := Aside0.mk hx
  have HK := Aside0.mk hk
  have FM1 := Aside0.mk hmk
  have FM2 := Aside0.mk hmm
  have HG := Aside0.mk hg
  have HFL := Aside0.mk (Kd.C_F k24_heap HR0.out)
  clear hx hxl hk hmk hmm hg
  go_enter Try.func8, Try.ntmps8
  go_wp2_with (first
    | (go_at_call 10; (with_reducible refine (pelicanlaw06_awake.calls true _ rfl).mono ?_); rintro e w_ ⟨rfl, hb_⟩; have X1 := Aside0.mk (blk_below (blk_new w (.cells #[.int .i64 t.f0, .int .i64 t.f1, .slice A2 t.f2.length c2] 24 (0, 0))) hb_); have HB := Aside0.mk (below_step (below_alloc (Below.refl w.heap.size w) (.cells #[.int .i64 t.f0, .int .i64 t.f1, .slice A2 t.f2.length c2] 24 (0, 0))) hb_); clear hb_; obtain ⟨⟨k0, k1, k2⟩, j0, j1, j2⟩ := cells3 X1.out)
    | (go_at_call 11; (with_reducible refine (pelicanref05_LightAll.calls q1 A0 c0 l true _ (Kd.C_below HR0.out HB.out) HC0.out F1.out).mono ?_); rintro e w_ ⟨rfl, hb_⟩; clear k0 k1 k2 j0 j1 j2; have HB := Aside0.mk (below_step HB.out hb_); have X1 := Aside0.mk (blk_below X1.out hb_); obtain ⟨⟨k0, k1, k2⟩, j0, j1, j2⟩ := cells3 X1.out; clear hb_)
    | (go_at_call 12; (with_reducible refine (pelicanref05_Light.calls q3 t.f0 t.f1 A2 c2 t.f2 true _ (Kd.C_below HR2.out HB.out) HC2.out F2.out).mono ?_); rintro e w_ ⟨rfl, hb_⟩; clear k0 k1 k2 j0 j1 j2; have HB := Aside0.mk (below_step HB.out hb_); have X1 := Aside0.mk (blk_below X1.out hb_); obtain ⟨⟨k0, k1, k2⟩, j0, j1, j2⟩ := cells3 X1.out; clear hb_)
    | (go_at_call 20; (with_reducible refine (know_May.calls A0 c0 l true _ (Kd.C_below HR0.out HB.out) HC0.out F3.out).mono ?_); rintro e w_ ⟨rfl, hb_⟩; clear k0 k1 k2 j0 j1 j2; have HB := Aside0.mk (below_step HB.out hb_); have X1 := Aside0.mk (blk_below X1.out hb_); obtain ⟨⟨k0, k1, k2⟩, j0, j1, j2⟩ := cells3 X1.out; clear hb_)
    | (go_at_call 23; (with_reducible refine (term_May.calls t.f0 t.f1 A2 c2 t.f2 true _ (Kd.C_below HR2.out HB.out) HC2.out F4.out).mono ?_); rintro e w_ ⟨rfl, hb_⟩; clear k0 k1 k2 j0 j1 j2; have HB := Aside0.mk (below_step HB.out hb_); have X1 := Aside0.mk (blk_below X1.out hb_); obtain ⟨⟨k0, k1, k2⟩, j0, j1, j2⟩ := cells3 X1.out; clear hb_)
    | (go_at_call 16; (with_reducible refine (lacks_n _ A0 l.length c0 l rfl HC0.out (Kd.C_below HR0.out HB.out) t.f0 t.f1 A2 t.f2.length c2 t.f2 rfl HC2.out (Kd.C_below HR2.out HB.out) xs FX.out).mono ?_); rintro e w_ ⟨B, d, rfl, hd, hC, hb_⟩; clear k0 k1 k2 j0 j1 j2; have HXC := Aside0.mk hC; have HXD := Aside0.mk hd; clear hC hd; have HB := Aside0.mk (below_step HB.out hb_); have X1 := Aside0.mk (blk_below X1.out hb_); obtain ⟨⟨k0, k1, k2⟩, j0, j1, j2⟩ := cells3 X1.out; clear hb_))
  go_loopw [4, 9] (fun v4 v9 wr => ∃ j : Nat, j ≤ xs.length ∧ v4 = .bool false ∧ v9 = .int .i64 j ∧ Aside0 (Kd.C k24 wr B xs.length xs) ∧ Aside0 (wr.heap[w.heap.size]? = some (.cells #[.int .i64 t.f0, .int .i64 t.f1, .slice A2 t.f2.length c2] 24 (0, 0))) ∧ Aside0 (Below w.heap.size w wr)) (fun _ v9 _ => xs.length - (intOf v9).toNat)
  case atStart => exact ⟨0, by omega, rfl, rfl, HXC, X1, HB⟩
  case round =>
    clear HXC X1 HB k0 k1 k2 j0 j1 j2
    obtain ⟨j, hj, rfl, rfl, HXC, X1, HB⟩ := hrel
    obtain ⟨⟨k0, k1, k2⟩, j0, j1, j2⟩ := cells3 X1.out
    have hml : xs.length ≤ 9223372036854775807 := by have := HXL.out; omega
    by_cases hlt : j < xs.length
    · obtain ⟨ad, cs, eA, hcl, hFK, hcs, _⟩ := Kd.F_get (Kd.C_F k24_heap HXC.out) z24 (j : Int) (by omega) (by omega)
      obtain ⟨A5, c5, rfl, hl5, hF5⟩ := k24_openF hFK
      rw [Int.toNat_natCast] at hcs hl5 hF5
      have HYE := Aside0.mk (show xs.getD j z24 = rd_T24 xs (j : Int) by unfold rd_T24; rw [Int.toNat_natCast])
      have HYM := Aside0.mk (HK.out _ (rdT_mem xs hlt))
      obtain ⟨y, hy⟩ : ∃ y, y = rd_T24 xs (j : Int) := ⟨_, rfl⟩
      rw [HYE.out, ← hy] at hcs hl5 hF5
      rw [← hy] at HYM
      have FY := Aside0.mk HYM.out.2
      have g1 : (y.f0 != 1) = false := by simpa using HYM.out.1
      clear hy HYE HYM
      have y0 : World.cell? wr (ad.add (j * 3)) = some (.int .i64 y.f0) := hcs 0 _ rfl
      have y1 : World.cell? wr ⟨(ad.add (j * 3)).block, (ad.add (j * 3)).off + 1, none⟩ = some (.int .i64 y.f1) := by rw [← add_field _ _ 1 (by omega)]; exact hcs 1 _ rfl
      have y2 : World.cell? wr ⟨(ad.add (j * 3)).block, (ad.add (j * 3)).off + 2, none⟩ = some (.slice A5 y.f2.length c5) := by rw [← add_field _ _ 2 (by omega)]; exact hcs 2 _ rfl
      have HC5 := Aside0.mk (Kd.F_now hF5)
      have HL5 := Aside0.mk hl5
      subst eA
      clear hcs hcl hFK hl5 hF5
      go_wp2_with (first | (go_at_call 21; (with_reducible refine (know_Makes.calls A0 c0 l y.f0 y.f1 A5 c5 y.f2 false _ (Kd.C_below HR0.out HB.out) HC0.out HC5.out HL5.out FY.out).mono ?_); rintro e w_ ⟨rfl, hb_⟩; clear k0 k1 k2 j0 j1 j2; have HB := Aside0.mk (below_step HB.out hb_); have X1 := Aside0.mk (blk_below X1.out hb_); have HXC := Aside0.mk (Kd.C_below HXC.out hb_); obtain ⟨⟨k0, k1, k2⟩, j0, j1, j2⟩ := cells3 X1.out; clear hb_))
      go_roundw
      case rel => exact ⟨j + 1, by omega, rfl, by go_num, HXC, X1, HB⟩
      case measure => simp [intOf]; omega
    · obtain rfl : j = xs.length := by omega
      clear hlt hj
      have hxl : (xs.length : Int) ≤ 30 := by have := HXL.out; omega
      have hgl := HG.out
      cases mk with
      | false =>
        go_wp2_with (first
  | ((with_reducible refine gate_builtin (b := .append) (xs := #[.const (.slice none 0 0), .tmp 65]) rfl ?_); (try (refine gate_guard (by rfl) ?_; dsimp only)); at_builtin; refine Kd.N_append_rows k24 (w0 := wr) wr.heap.size rfl (.const (.slice none 0 0)) (.tmp 65) 22 24 zT 40 rfl Try.underlying22 info24 rfl (by decide) (by omega) (.slice none 0 0) ([] : List S24) l A0 l.length c0 (fun _ => True) (fun k => k < w.heap.size) rfl rfl (Kd.N_nil k24 24 _ _ _) (Kd.F_below HFL.out HB.out) (fun k hk => ⟨trivial, by simp [Value.ownBlock]⟩) (fun k hk => trivial) (Below.refl wr.heap.size wr) (Nat.le_refl _) (by have := HLN.out; simp; omega) ?_; intro v' wA hN hb hg hat; rw [List.nil_append] at hN; obtain ⟨An, cn, rfl⟩ := Kd.N_slice hN; have HNA := Aside0.mk hN; have HBA := Aside0.mk hb; clear hN hb hg hat)
  | ((with_reducible refine gate_builtin (b := .append) (xs := #[.tmp 66, .tmp 67]) rfl ?_); (try (refine gate_guard (by rfl) ?_; dsimp only)); at_builtin; refine Kd.N_append_rows k24 (w0 := wr) wr.heap.size rfl (.tmp 66) (.tmp 67) 22 24 zT 40 rfl Try.underlying22 info24 rfl (by decide) (by omega) (.slice An l.length cn) l xs B xs.length d (fun _ => True) (fun k => k < wr.heap.size) rfl rfl HNA.out (Kd.F_below (Kd.C_F k24_heap HXC.out) HBA.out) (fun k hk => ⟨trivial, fun e => by have h1 := Kd.N_base HNA.out k e.symm; omega⟩) (fun k hk => trivial) HBA.out (below_size HBA.out) (by have := HLN.out; have := HXL.out; omega) ?_; intro v2 wF hN hb_ hg hat; obtain ⟨Af, cf, ev, hlf, hCf⟩ := Kd.N_reads hN; rw [List.length_append] at ev hlf hCf; subst ev; have HLM := Aside0.mk hlf; have HCM := Aside0.mk hCf; clear hN hg hat hlf hCf; clear k0 k1 k2 j0 j1 j2; have HB := Aside0.mk (below_step HB.out hb_); have X1 := Aside0.mk (blk_below X1.out hb_); obtain ⟨⟨k0, k1, k2⟩, j0, j1, j2⟩ := cells3 X1.out; clear hb_)
  | (go_at_call 21; (with_reducible refine (know_Makes.calls A0 c0 l t.f0 t.f1 A2 c2 t.f2 false _ (Kd.C_below HR0.out HB.out) HC0.out (Kd.C_below HR2.out HB.out) HC2.out FM1.out).mono ?_); rintro e w_ ⟨rfl, hb_⟩; clear k0 k1 k2 j0 j1 j2; have HB := Aside0.mk (below_step HB.out hb_); have X1 := Aside0.mk (blk_below X1.out hb_); have HCM := Aside0.mk (Kd.C_below HCM.out hb_); obtain ⟨⟨k0, k1, k2⟩, j0, j1, j2⟩ := cells3 X1.out; clear hb_)
  | (go_at_call 21; (with_reducible refine (makes_n _ Af (l.length + xs.length) cf (l ++ xs) (List.length_append) HLM.out HCM.out t.f0 t.f1 A2 t.f2.length c2 t.f2 rfl HC2.out (Kd.C_below HR2.out HB.out) true FM2.out).mono ?_); rintro e w_ ⟨rfl, hb_⟩; clear k0 k1 k2 j0 j1 j2; have HB := Aside0.mk (below_step HB.out hb_); have X1 := Aside0.mk (blk_below X1.out hb_); have HCM := Aside0.mk (Kd.C_below HCM.out hb_); obtain ⟨⟨k0, k1, k2⟩, j0, j1, j2⟩ := cells3 X1.out; clear hb_))
        go_ret
        exact ⟨rfl, HB.out⟩
      | true =>
        go_wp2_with (first
  | ((with_reducible refine gate_builtin (b := .append) (xs := #[.const (.slice none 0 0), .tmp 65]) rfl ?_); (try (refine gate_guard (by rfl) ?_; dsimp only)); at_builtin; refine Kd.N_append_rows k24 (w0 := wr) wr.heap.size rfl (.const (.slice none 0 0)) (.tmp 65) 22 24 zT 40 rfl Try.underlying22 info24 rfl (by decide) (by omega) (.slice none 0 0) ([] : List S24) l A0 l.length c0 (fun _ => True) (fun k => k < w.heap.size) rfl rfl (Kd.N_nil k24 24 _ _ _) (Kd.F_below HFL.out HB.out) (fun k hk => ⟨trivial, by simp [Value.ownBlock]⟩) (fun k hk => trivial) (Below.refl wr.heap.size wr) (Nat.le_refl _) (by have := HLN.out; simp; omega) ?_; intro v' wA hN hb hg hat; rw [List.nil_append] at hN; obtain ⟨An, cn, rfl⟩ := Kd.N_slice hN; have HNA := Aside0.mk hN; have HBA := Aside0.mk hb; clear hN hb hg hat)
  | ((with_reducible refine gate_builtin (b := .append) (xs := #[.tmp 66, .tmp 67]) rfl ?_); (try (refine gate_guard (by rfl) ?_; dsimp only)); at_builtin; refine Kd.N_append_rows k24 (w0 := wr) wr.heap.size rfl (.tmp 66) (.tmp 67) 22 24 zT 40 rfl Try.underlying22 info24 rfl (by decide) (by omega) (.slice An l.length cn) l xs B xs.length d (fun _ => True) (fun k => k < wr.heap.size) rfl rfl HNA.out (Kd.F_below (Kd.C_F k24_heap HXC.out) HBA.out) (fun k hk => ⟨trivial, fun e => by have h1 := Kd.N_base HNA.out k e.symm; omega⟩) (fun k hk => trivial) HBA.out (below_size HBA.out) (by have := HLN.out; have := HXL.out; omega) ?_; intro v2 wF hN hb_ hg hat; obtain ⟨Af, cf, ev, hlf, hCf⟩ := Kd.N_reads hN; rw [List.length_append] at ev hlf hCf; subst ev; have HLM := Aside0.mk hlf; have HCM := Aside0.mk hCf; clear hN hg hat hlf hCf; clear k0 k1 k2 j0 j1 j2; have HB := Aside0.mk (below_step HB.out hb_); have X1 := Aside0.mk (blk_below X1.out hb_); obtain ⟨⟨k0, k1, k2⟩, j0, j1, j2⟩ := cells3 X1.out; clear hb_)
  | (go_at_call 21; (with_reducible refine (know_Makes.calls A0 c0 l t.f0 t.f1 A2 c2 t.f2 true _ (Kd.C_below HR0.out HB.out) HC0.out (Kd.C_below HR2.out HB.out) HC2.out FM1.out).mono ?_); rintro e w_ ⟨rfl, hb_⟩; clear k0 k1 k2 j0 j1 j2; have HB := Aside0.mk (below_step HB.out hb_); have X1 := Aside0.mk (blk_below X1.out hb_); have HCM := Aside0.mk (Kd.C_below HCM.out hb_); obtain ⟨⟨k0, k1, k2⟩, j0, j1, j2⟩ := cells3 X1.out; clear hb_)
  | (go_at_call 21; (with_reducible refine (makes_n _ Af (l.length + xs.length) cf (l ++ xs) (List.length_append) HLM.out HCM.out t.f0 t.f1 A2 t.f2.length c2 t.f2 rfl HC2.out (Kd.C_below HR2.out HB.out) true FM2.out).mono ?_); rintro e w_ ⟨rfl, hb_⟩; clear k0 k1 k2 j0 j1 j2; have HB := Aside0.mk (below_step HB.out hb_); have X1 := Aside0.mk (blk_below X1.out hb_); have HCM := Aside0.mk (Kd.C_below HCM.out hb_); obtain ⟨⟨k0, k1, k2⟩, j0, j1, j2⟩ := cells3 X1.out; clear hb_))
        go_ret
        exact ⟨rfl, HB.out⟩
theorem mem_missL (p : List S24) (z : S24) : ∀ l, z ∈ missL p l ↔ ∃ y ∈ l, z ∈ missT p y
  | [] => by simp [missL]
  | x :: l => by rw [missL, List.mem_append, mem_missL p z l]; simp
theorem miss_key (p : List S24) : ∀ x z, z ∈ missT p x → z.f0 = 1 ∧ z ∉ p := tree_ind fun x ih z hz => by
  rw [missT_eq] at hz
  by_cases h0 : x.f0 = 0
  · rw [if_pos h0] at hz; simp at hz
  · rw [if_neg h0] at hz
    by_cases h1 : inL p x = true
    · rw [if_pos h1] at hz; simp at hz
    · rw [if_neg h1] at hz
      by_cases h2 : x.f0 = 1
      · rw [if_pos h2, List.mem_singleton] at hz
        subst hz
        exact ⟨h2, fun h => h1 ((inL_iff _ _).2 h)⟩
      · rw [if_neg h2, mem_missL] at hz
        obtain ⟨y, hy, hz⟩ := hz
        exact ih y hy z hz
theorem miss_may (p : List S24) : ∀ x z, mayT x = true → z ∈ missT p x → mayT z = true := tree_ind fun x ih z hm hz => by
  rw [missT_eq] at hz
  by_cases h0 : x.f0 = 0
  · rw [if_pos h0] at hz; simp at hz
  · rw [if_neg h0] at hz
    by_cases h1 : inL p x = true
    · rw [if_pos h1] at hz; simp at hz
    · rw [if_neg h1] at hz
      by_cases h2 : x.f0 = 1
      · rw [if_pos h2, List.mem_singleton] at hz
        subst hz
        exact hm
      · rw [if_neg h2, mem_missL] at hz
        obtain ⟨y, hy, hz⟩ := hz
        exact ih y hy z (may_arg hm hy) hz
theorem miss_len (p : List S24) : ∀ x, okT x = true → (missT p x).length * 2 ≤ tsize x + 1 := tree_ind fun x ih hok => by
  have ht := tsize_pos x
  rw [missT_eq]
  by_cases h0 : x.f0 = 0
  · rw [if_pos h0]; simp
  · rw [if_neg h0]
    by_cases h1 : inL p x = true
    · rw [if_pos h1]; simp
    · rw [if_neg h1]
      by_cases h2 : x.f0 = 1
      · rw [if_pos h2, List.length_singleton]; omega
      · rw [if_neg h2]
        obtain ⟨a, b, hab, ha, hb⟩ := okT_fork hok h0 h2
        have e1 := ih a (by rw [hab]; simp) ha
        have e2 := ih b (by rw [hab]; simp) hb
        have e3 := tsize_eq x
        rw [hab, lsize, lsize, lsize] at e3
        rw [hab, missL, missL, missL, List.append_nil, List.length_append]
        omega
theorem miss_fill {p p' : List S24} (hp : ∀ z ∈ p, z ∈ p') : ∀ x, (∀ z ∈ missT p x, z ∈ p') → missT p' x = [] := tree_ind fun x ih h => by
  rw [missT_eq] at h
  by_cases h0 : x.f0 = 0
  · exact (missT_nil_iff _ _).2 (Or.inl h0)
  · rw [if_neg h0] at h
    by_cases h1 : inL p x = true
    · exact made_in (hp x ((inL_iff _ _).1 h1))
    · rw [if_neg h1] at h
      by_cases h2 : x.f0 = 1
      · rw [if_pos h2] at h
        exact made_in (h x (by simp))
      · rw [if_neg h2] at h
        exact (missT_nil_iff _ _).2 (Or.inr (Or.inr ⟨h2, fun y hy => ih y hy (fun z hz => h z ((mem_missL _ _ _).2 ⟨y, hy, hz⟩))⟩))
theorem pelicanlaw06_KnowLacks_in (l : List S24) (t : S24) (A0 A2 : Option Addr) (c0 c2 : Nat) (w : World) (hr0 : Kd.C k24 w A0 l.length l) (hc0 : l.length ≤ c0) (hr2 : Kd.C k24 w A2 t.f2.length t.f2) (hc2 : t.f2.length ≤ c2) :
    Calls Try.prog 8 #[.slice A0 l.length c0, .agg #[.int .i64 t.f0, .int .i64 t.f1, .slice A2 t.f2.length c2]] w fun e w' => e = .returned (.bool true) ∧ Below w.heap.size w w' := by
  obtain ⟨q1, hq1⟩ := Ev.rounds (lightAll_ev l)
  obtain ⟨q3, hq3⟩ := Ev.rounds (light_ev t)
  obtain ⟨b3, h3⟩ : ∃ b, know_May.f l = some b := ⟨_, rfl⟩
  obtain ⟨b4, h4⟩ : ∃ b, term_May.f t.f0 t.f1 t.f2 = some b := ⟨_, rfl⟩
  cases e1 : lightL l with
  | false => rw [e1] at hq1; exact ll_o1 l t A0 A2 c0 c2 w hr0 hc0 hr2 hc2 q1 q3 _ b3 b4 hq1 hq3 h3 h4
  | true =>
    rw [e1] at hq1
    by_cases e3 : tsize t ≤ 150 ∧ tdep t ≤ 20
    · rw [decide_eq_true e3] at hq3
      by_cases hl : 9 < l.length
      · exact ll_len l t A0 A2 c0 c2 w hr0 hc0 hr2 hc2 q1 q3 b3 b4 hq1 hq3 h3 h4 (by omega)
      · cases b3 with
        | false => exact ll_o3 l t A0 A2 c0 c2 w hr0 hc0 hr2 hc2 q1 q3 b4 hq1 hq3 h3 h4 (by omega)
        | true =>
          cases b4 with
          | false => exact ll_o4 l t A0 A2 c0 c2 w hr0 hc0 hr2 hc2 q1 q3 hq1 hq3 h3 h4 (by omega)
          | true =>
            obtain ⟨hz, hs⟩ := light_size e1
            have hz6 : lsize l ≤ 1000000 := by omega
            have hs6 : ∀ z ∈ l, tsize z ≤ 1000000 := fun z hz => by have := hs z hz; omega
            have hm : mayL l = true := Option.some.inj h3
            have hu : mayT t = true := by rw [may_f t (by omega)] at h4; exact Option.some.inj h4
            obtain ⟨hok, ht60, _⟩ := (mayT_iff t).1 hu
            obtain ⟨xs, hxs⟩ : ∃ xs, xs = addAll [] (missT (partsOf l) t) := ⟨_, rfl⟩
            have hmem : ∀ z, z ∈ xs ↔ z ∈ missT (partsOf l) t := fun z => by rw [hxs, addAll_mem]; simp
            have hlen : xs.length ≤ 30 := by
              have h1 := miss_len (partsOf l) t hok
              have h2 := addAll_len (missT (partsOf l) t) []
              rw [← hxs, List.length_nil] at h2
              omega
            have hxm : ∀ z ∈ xs, mayT z = true := fun z hz => miss_may (partsOf l) t z hu ((hmem z).1 hz)
            have hx60 : ∀ z ∈ xs, tsize z ≤ 60 := fun z hz => ((mayT_iff z).1 (hxm z hz)).2.1
            have hxz := lsize_le xs 60 hx60
            have hm2 : mayL (l ++ xs) = true := mayL_app hm hs6 hxm (by omega)
            refine ll_main l t A0 A2 c0 c2 w hr0 hc0 hr2 hc2 q1 q3 hq1 hq3 h3 h4 (by omega) xs (makesB l t) (by rw [lacks_f l t hz6 (by omega), if_pos ⟨hm, hu⟩, hxs]) hlen (fun y hy => ?_) (makes_f l t hz6 (by omega)) ?_ ?_
            · obtain ⟨k1, k2⟩ := miss_key _ _ _ ((hmem y).1 hy)
              refine ⟨k1, ?_⟩
              rw [makes_f l y hz6 (by have := hx60 y hy; omega)]
              congr 1
              rw [Bool.eq_false_iff]
              intro h
              rcases (missT_nil_iff _ _).1 ((makesB_iff _ _).1 h).2.2 with h | h | h
              · omega
              · exact k2 h
              · exact h.1 k1
            · rw [Bool.eq_iff_iff, beq_iff_eq, makesB_iff]
              have hn : (xs.length : Int) = 0 ↔ missT (partsOf l) t = [] := by
                rw [← addAll_nil_iff, ← hxs, ← List.length_eq_zero_iff]; omega
              rw [hn]
              exact ⟨fun h => ⟨hm, hu, h⟩, fun h => h.2.2⟩
            · rw [makes_f (l ++ xs) t (by rw [lsize_append]; omega) (by omega)]
              congr 1
              refine (makesB_iff _ _).2 ⟨hm2, hu, miss_fill (p := partsOf l) (fun z hz => (mem_parts_app _ _ _).2 (Or.inl hz)) t (fun z hz => (mem_parts_app _ _ _).2 (Or.inr ?_))⟩
              exact (mem_parts _ _).2 (reachL_self ((hmem z).2 hz))
    · rw [decide_eq_false e3] at hq3
      exact ll_o2 l t A0 A2 c0 c2 w hr0 hc0 hr2 hc2 q1 q3 b3 b4 hq1 hq3 h3 h4
def pelicanlaw06_KnowLacks.f (l0 : List (S24)) (a1_0 : Int) (a1_1 : Int) (l1_2 : List (S24)) : Option (Bool) := some true
theorem pelicanlaw06_KnowLacks.calls (A0 : Option Addr) (c0 : Nat) (l0 : List (S24)) (a1_0 : Int) (a1_1 : Int) (A1_2 : Option Addr) (c1_2 : Nat) (l1_2 : List (S24)) (r : Bool) (w : World) (hr0 : Kd.C k24 w A0 l0.length l0) (hc0 : l0.length ≤ c0) (hr1_2 : Kd.C k24 w A1_2 l1_2.length l1_2) (hc1_2 : l1_2.length ≤ c1_2) (h : pelicanlaw06_KnowLacks.f l0 a1_0 a1_1 l1_2 = some r) (hr_0 : r = true) :
    Calls Try.prog 8 #[.slice A0 l0.length c0, .agg #[.int .i64 a1_0, .int .i64 a1_1, .slice A1_2 l1_2.length c1_2]] w fun e w' => e = .returned (.bool r) ∧ Below w.heap.size w w' := by
  subst hr_0
  exact pelicanlaw06_KnowLacks_in l0 ⟨a1_0, a1_1, l1_2⟩ A0 A1_2 c0 c1_2 w hr0 hc0 hr1_2 hc1_2
end Go.Proofs.Ytfonjmggalkbjaa.P
