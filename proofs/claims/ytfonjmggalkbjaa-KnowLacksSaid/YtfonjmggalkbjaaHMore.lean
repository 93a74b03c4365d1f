/- By hand: the law KnowMore's walk; what the laws of more that is known share. -/
import Derived.Test.YtfonjmggalkbjaaHAwake
namespace Go.Proofs.Ytfonjmggalkbjaa.P
open Go.RowKit Go.Proofs.YtfonjmggalkbjaaW.PrintWords Go.Proofs.YtfonjmggalkbjaaW.PrintLast Go.Proofs.YtfonjmggalkbjaaW.PrintMore
set_option linter.unusedVariables false
set_option linter.unusedSimpArgs false
theorem two_allocs_ (w : World) (o1 o2 : Obj) : ((w.alloc o1).alloc o2).heap[w.heap.size]? = some o1 ∧ ((w.alloc o1).alloc o2).heap[w.heap.size + 1]? = some o2 := by
  have s1 : (w.alloc o1).heap.size = w.heap.size + 1 := Array.size_push _
  have b2 := World.alloc_heap_new (w.alloc o1) o2
  rw [s1] at b2
  exact ⟨blk_alloc (World.alloc_heap_new w o1) o2, b2⟩
theorem C_one {W : World} {g : Nat} {u : S24} {A : Option Addr} {c : Nat} (hg : W.heap[g]? = some (.cells #[.int .i64 u.f0, .int .i64 u.f1, .slice A u.f2.length c] 24 (0, 0))) (hc : u.f2.length ≤ c) (hC : Kd.C k24 W A u.f2.length u.f2) : Kd.C k24 W (some ⟨g, 0, none⟩) 1 [u] := by
  refine ⟨rfl, by omega, fun _ => ⟨_, rfl, fun j p hj => ?_⟩⟩
  have hc' : ∀ i, W.cell? ((⟨g, 0, none⟩ : Addr).add i) = #[.int .i64 u.f0, .int .i64 u.f1, .slice A u.f2.length c][i]? := fun i => by
    rw [add_plain]
    exact blk_cell hg i
  rcases j with _ | j
  · simp only [List.getElem?_cons_zero, Option.some.injEq] at hj
    subst hj
    refine ⟨_, rfl, k24_mk W u hc hC, fun i v hu => ?_⟩
    rw [hc', Nat.zero_mul, Nat.zero_add]
    rcases i with _ | _ | _ | i
    all_goals first | (simp at hu; done) | exact hu
  · simp at hj
theorem F_one {W : World} {ok : Nat → Prop} {g : Nat} {u : S24} {A : Option Addr} {c : Nat} (hg : W.heap[g]? = some (.cells #[.int .i64 u.f0, .int .i64 u.f1, .slice A u.f2.length c] 24 (0, 0))) (hc : u.f2.length ≤ c) (hF : Kd.F k24 W ok A u.f2.length u.f2) : Kd.F k24 W (fun k => ok k ∨ k = g) (some ⟨g, 0, none⟩) 1 [u] := fun W' hW =>
  C_one ((hW g (Or.inr rfl) (blk_lt hg)).trans hg) hc (hF W' (fun k hk hlt => hW k (Or.inl hk) hlt))
set_option maxRecDepth 100000 in
set_option maxHeartbeats 4000000 in
theorem more_o1 (l : List S24) (u t : S24) (A0 A1 A2 : Option Addr) (c0 c1 c2 : Nat) (i : Int) (w : World) (hr0 : Kd.C k24 w A0 l.length l) (hc0 : l.length ≤ c0) (hr1 : Kd.C k24 w A1 u.f2.length u.f2) (hc1 : u.f2.length ≤ c1) (hr2 : Kd.C k24 w A2 t.f2.length t.f2) (hc2 : t.f2.length ≤ c2) (q1 q2 q3 : Nat) (b2 : Bool) (b3 : Bool) (b4 : Bool) (b5 : Bool) (h1 : pelicanref05_LightAll.f q1 l = some false) (h2 : pelicanref05_Light.f q2 u.f0 u.f1 u.f2 = some b2) (h3 : pelicanref05_Light.f q3 t.f0 t.f1 t.f2 = some b3) (h4 : know_May.f l = some b4) (h5 : term_May.f u.f0 u.f1 u.f2 = some b5)  :
    Calls Try.prog 4 #[.slice A0 l.length c0, .agg #[.int .i64 u.f0, .int .i64 u.f1, .slice A1 u.f2.length c1], .agg #[.int .i64 t.f0, .int .i64 t.f1, .slice A2 t.f2.length c2], .int .i64 i] w fun e w' => e = .returned (.bool true) ∧ Below w.heap.size w w' := by
  have HR0 := Aside0.mk hr0
  have HC0 := Aside0.mk hc0
  have HR1 := Aside0.mk hr1
  have HC1 := Aside0.mk hc1
  have HR2 := Aside0.mk hr2
  have HC2 := Aside0.mk hc2
  clear hr0 hc0 hr1 hc1 hr2 hc2
  have F1 := Aside0.mk h1
  have F2 := Aside0.mk h2
  have F3 := Aside0.mk h3
  have F4 := Aside0.mk h4
  have F5 := Aside0.mk h5
  clear h1 h2 h3 h4 h5
  go_enter Try.func4, Try.ntmps4
  go_wp2_with (first
    | (go_at_call 10; (with_reducible refine (pelicanlaw06_awake.calls true _ rfl).mono ?_); rintro e w_ ⟨rfl, hb_⟩; have X1 := Aside0.mk (blk_below (two_allocs_ w (.cells #[.int .i64 u.f0, .int .i64 u.f1, .slice A1 u.f2.length c1] 24 (0, 0)) (.cells #[.int .i64 t.f0, .int .i64 t.f1, .slice A2 t.f2.length c2] 24 (0, 0))).1 hb_); have X2 := Aside0.mk (blk_below (two_allocs_ w (.cells #[.int .i64 u.f0, .int .i64 u.f1, .slice A1 u.f2.length c1] 24 (0, 0)) (.cells #[.int .i64 t.f0, .int .i64 t.f1, .slice A2 t.f2.length c2] 24 (0, 0))).2 hb_); have HB := Aside0.mk (below_step (below_alloc (below_alloc (Below.refl w.heap.size w) (.cells #[.int .i64 u.f0, .int .i64 u.f1, .slice A1 u.f2.length c1] 24 (0, 0))) (.cells #[.int .i64 t.f0, .int .i64 t.f1, .slice A2 t.f2.length c2] 24 (0, 0))) hb_); clear hb_; obtain ⟨⟨k0, k1, k2⟩, j0, j1, j2⟩ := cells3 X1.out; obtain ⟨⟨m0, m1, m2⟩, i0, i1, i2⟩ := cells3 X2.out)
    | (go_at_call 11; (with_reducible refine (pelicanref05_LightAll.calls q1 A0 c0 l false _ (Kd.C_below HR0.out HB.out) HC0.out F1.out).mono ?_); rintro e w_ ⟨rfl, hb_⟩; clear k0 k1 k2 j0 j1 j2 m0 m1 m2 i0 i1 i2; have HB := Aside0.mk (below_step HB.out hb_); have X1 := Aside0.mk (blk_below X1.out hb_); have X2 := Aside0.mk (blk_below X2.out hb_); obtain ⟨⟨k0, k1, k2⟩, j0, j1, j2⟩ := cells3 X1.out; obtain ⟨⟨m0, m1, m2⟩, i0, i1, i2⟩ := cells3 X2.out; clear hb_)
    | (go_at_call 12; (with_reducible refine (pelicanref05_Light.calls q2 u.f0 u.f1 A1 c1 u.f2 b2 _ (Kd.C_below HR1.out HB.out) HC1.out F2.out).mono ?_); rintro e w_ ⟨rfl, hb_⟩; clear k0 k1 k2 j0 j1 j2 m0 m1 m2 i0 i1 i2; have HB := Aside0.mk (below_step HB.out hb_); have X1 := Aside0.mk (blk_below X1.out hb_); have X2 := Aside0.mk (blk_below X2.out hb_); obtain ⟨⟨k0, k1, k2⟩, j0, j1, j2⟩ := cells3 X1.out; obtain ⟨⟨m0, m1, m2⟩, i0, i1, i2⟩ := cells3 X2.out; clear hb_)
    | (go_at_call 12; (with_reducible refine (pelicanref05_Light.calls q3 t.f0 t.f1 A2 c2 t.f2 b3 _ (Kd.C_below HR2.out HB.out) HC2.out F3.out).mono ?_); rintro e w_ ⟨rfl, hb_⟩; clear k0 k1 k2 j0 j1 j2 m0 m1 m2 i0 i1 i2; have HB := Aside0.mk (below_step HB.out hb_); have X1 := Aside0.mk (blk_below X1.out hb_); have X2 := Aside0.mk (blk_below X2.out hb_); obtain ⟨⟨k0, k1, k2⟩, j0, j1, j2⟩ := cells3 X1.out; obtain ⟨⟨m0, m1, m2⟩, i0, i1, i2⟩ := cells3 X2.out; clear hb_)
    | (go_at_call 20; (with_reducible refine (know_May.calls A0 c0 l b4 _ (Kd.C_below HR0.out HB.out) HC0.out F4.out).mono ?_); rintro e w_ ⟨rfl, hb_⟩; clear k0 k1 k2 j0 j1 j2 m0 m1 m2 i0 i1 i2; have HB := Aside0.mk (below_step HB.out hb_); have X1 := Aside0.mk (blk_below X1.out hb_); have X2 := Aside0.mk (blk_below X2.out hb_); obtain ⟨⟨k0, k1, k2⟩, j0, j1, j2⟩ := cells3 X1.out; obtain ⟨⟨m0, m1, m2⟩, i0, i1, i2⟩ := cells3 X2.out; clear hb_)
    | (go_at_call 23; (with_reducible refine (term_May.calls u.f0 u.f1 A1 c1 u.f2 b5 _ (Kd.C_below HR1.out HB.out) HC1.out F5.out).mono ?_); rintro e w_ ⟨rfl, hb_⟩; clear k0 k1 k2 j0 j1 j2 m0 m1 m2 i0 i1 i2; have HB := Aside0.mk (below_step HB.out hb_); have X1 := Aside0.mk (blk_below X1.out hb_); have X2 := Aside0.mk (blk_below X2.out hb_); obtain ⟨⟨k0, k1, k2⟩, j0, j1, j2⟩ := cells3 X1.out; obtain ⟨⟨m0, m1, m2⟩, i0, i1, i2⟩ := cells3 X2.out; clear hb_))
  go_ret
  exact ⟨rfl, HB.out⟩
set_option maxRecDepth 100000 in
set_option maxHeartbeats 4000000 in
theorem more_o2 (l : List S24) (u t : S24) (A0 A1 A2 : Option Addr) (c0 c1 c2 : Nat) (i : Int) (w : World) (hr0 : Kd.C k24 w A0 l.length l) (hc0 : l.length ≤ c0) (hr1 : Kd.C k24 w A1 u.f2.length u.f2) (hc1 : u.f2.length ≤ c1) (hr2 : Kd.C k24 w A2 t.f2.length t.f2) (hc2 : t.f2.length ≤ c2) (q1 q2 q3 : Nat) (b3 : Bool) (b4 : Bool) (b5 : Bool) (h1 : pelicanref05_LightAll.f q1 l = some true) (h2 : pelicanref05_Light.f q2 u.f0 u.f1 u.f2 = some false) (h3 : pelicanref05_Light.f q3 t.f0 t.f1 t.f2 = some b3) (h4 : know_May.f l = some b4) (h5 : term_May.f u.f0 u.f1 u.f2 = some b5)  :
    Calls Try.prog 4 #[.slice A0 l.length c0, .agg #[.int .i64 u.f0, .int .i64 u.f1, .slice A1 u.f2.length c1], .agg #[.int .i64 t.f0, .int .i64 t.f1, .slice A2 t.f2.length c2], .int .i64 i] w fun e w' => e = .returned (.bool true) ∧ Below w.heap.size w w' := by
  have HR0 := Aside0.mk hr0
  have HC0 := Aside0.mk hc0
  have HR1 := Aside0.mk hr1
  have HC1 := Aside0.mk hc1
  have HR2 := Aside0.mk hr2
  have HC2 := Aside0.mk hc2
  clear hr0 hc0 hr1 hc1 hr2 hc2
  have F1 := Aside0.mk h1
  have F2 := Aside0.mk h2
  have F3 := Aside0.mk h3
  have F4 := Aside0.mk h4
  have F5 := Aside0.mk h5
  clear h1 h2 h3 h4 h5
  go_enter Try.func4, Try.ntmps4
  go_wp2_with (first
    | (go_at_call 10; (with_reducible refine (pelicanlaw06_awake.calls true _ rfl).mono ?_); rintro e w_ ⟨rfl, hb_⟩; have X1 := Aside0.mk (blk_below (two_allocs_ w (.cells #[.int .i64 u.f0, .int .i64 u.f1, .slice A1 u.f2.length c1] 24 (0, 0)) (.cells #[.int .i64 t.f0, .int .i64 t.f1, .slice A2 t.f2.length c2] 24 (0, 0))).1 hb_); have X2 := Aside0.mk (blk_below (two_allocs_ w (.cells #[.int .i64 u.f0, .int .i64 u.f1, .slice A1 u.f2.length c1] 24 (0, 0)) (.cells #[.int .i64 t.f0, .int .i64 t.f1, .slice A2 t.f2.length c2] 24 (0, 0))).2 hb_); have HB := Aside0.mk (below_step (below_alloc (below_alloc (Below.refl w.heap.size w) (.cells #[.int .i64 u.f0, .int .i64 u.f1, .slice A1 u.f2.length c1] 24 (0, 0))) (.cells #[.int .i64 t.f0, .int .i64 t.f1, .slice A2 t.f2.length c2] 24 (0, 0))) hb_); clear hb_; obtain ⟨⟨k0, k1, k2⟩, j0, j1, j2⟩ := cells3 X1.out; obtain ⟨⟨m0, m1, m2⟩, i0, i1, i2⟩ := cells3 X2.out)
    | (go_at_call 11; (with_reducible refine (pelicanref05_LightAll.calls q1 A0 c0 l true _ (Kd.C_below HR0.out HB.out) HC0.out F1.out).mono ?_); rintro e w_ ⟨rfl, hb_⟩; clear k0 k1 k2 j0 j1 j2 m0 m1 m2 i0 i1 i2; have HB := Aside0.mk (below_step HB.out hb_); have X1 := Aside0.mk (blk_below X1.out hb_); have X2 := Aside0.mk (blk_below X2.out hb_); obtain ⟨⟨k0, k1, k2⟩, j0, j1, j2⟩ := cells3 X1.out; obtain ⟨⟨m0, m1, m2⟩, i0, i1, i2⟩ := cells3 X2.out; clear hb_)
    | (go_at_call 12; (with_reducible refine (pelicanref05_Light.calls q2 u.f0 u.f1 A1 c1 u.f2 false _ (Kd.C_below HR1.out HB.out) HC1.out F2.out).mono ?_); rintro e w_ ⟨rfl, hb_⟩; clear k0 k1 k2 j0 j1 j2 m0 m1 m2 i0 i1 i2; have HB := Aside0.mk (below_step HB.out hb_); have X1 := Aside0.mk (blk_below X1.out hb_); have X2 := Aside0.mk (blk_below X2.out hb_); obtain ⟨⟨k0, k1, k2⟩, j0, j1, j2⟩ := cells3 X1.out; obtain ⟨⟨m0, m1, m2⟩, i0, i1, i2⟩ := cells3 X2.out; clear hb_)
    | (go_at_call 12; (with_reducible refine (pelicanref05_Light.calls q3 t.f0 t.f1 A2 c2 t.f2 b3 _ (Kd.C_below HR2.out HB.out) HC2.out F3.out).mono ?_); rintro e w_ ⟨rfl, hb_⟩; clear k0 k1 k2 j0 j1 j2 m0 m1 m2 i0 i1 i2; have HB := Aside0.mk (below_step HB.out hb_); have X1 := Aside0.mk (blk_below X1.out hb_); have X2 := Aside0.mk (blk_below X2.out hb_); obtain ⟨⟨k0, k1, k2⟩, j0, j1, j2⟩ := cells3 X1.out; obtain ⟨⟨m0, m1, m2⟩, i0, i1, i2⟩ := cells3 X2.out; clear hb_)
    | (go_at_call 20; (with_reducible refine (know_May.calls A0 c0 l b4 _ (Kd.C_below HR0.out HB.out) HC0.out F4.out).mono ?_); rintro e w_ ⟨rfl, hb_⟩; clear k0 k1 k2 j0 j1 j2 m0 m1 m2 i0 i1 i2; have HB := Aside0.mk (below_step HB.out hb_); have X1 := Aside0.mk (blk_below X1.out hb_); have X2 := Aside0.mk (blk_below X2.out hb_); obtain ⟨⟨k0, k1, k2⟩, j0, j1, j2⟩ := cells3 X1.out; obtain ⟨⟨m0, m1, m2⟩, i0, i1, i2⟩ := cells3 X2.out; clear hb_)
    | (go_at_call 23; (with_reducible refine (term_May.calls u.f0 u.f1 A1 c1 u.f2 b5 _ (Kd.C_below HR1.out HB.out) HC1.out F5.out).mono ?_); rintro e w_ ⟨rfl, hb_⟩; clear k0 k1 k2 j0 j1 j2 m0 m1 m2 i0 i1 i2; have HB := Aside0.mk (below_step HB.out hb_); have X1 := Aside0.mk (blk_below X1.out hb_); have X2 := Aside0.mk (blk_below X2.out hb_); obtain ⟨⟨k0, k1, k2⟩, j0, j1, j2⟩ := cells3 X1.out; obtain ⟨⟨m0, m1, m2⟩, i0, i1, i2⟩ := cells3 X2.out; clear hb_))
  go_ret
  exact ⟨rfl, HB.out⟩
set_option maxRecDepth 100000 in
set_option maxHeartbeats 4000000 in
theorem more_o3 (l : List S24) (u t : S24) (A0 A1 A2 : Option Addr) (c0 c1 c2 : Nat) (i : Int) (w : World) (hr0 : Kd.C k24 w A0 l.length l) (hc0 : l.length ≤ c0) (hr1 : Kd.C k24 w A1 u.f2.length u.f2) (hc1 : u.f2.length ≤ c1) (hr2 : Kd.C k24 w A2 t.f2.length t.f2) (hc2 : t.f2.length ≤ c2) (q1 q2 q3 : Nat) (b4 : Bool) (b5 : Bool) (h1 : pelicanref05_LightAll.f q1 l = some true) (h2 : pelicanref05_Light.f q2 u.f0 u.f1 u.f2 = some true) (h3 : pelicanref05_Light.f q3 t.f0 t.f1 t.f2 = some false) (h4 : know_May.f l = some b4) (h5 : term_May.f u.f0 u.f1 u.f2 = some b5)  :
    Calls Try.prog 4 #[.slice A0 l.length c0, .agg #[.int .i64 u.f0, .int .i64 u.f1, .slice A1 u.f2.length c1], .agg #[.int .i64 t.f0, .int .i64 t.f1, .slice A2 t.f2.length c2], .int .i64 i] w fun e w' => e = .returned (.bool true) ∧ Below w.heap.size w w' := by
  have HR0 := Aside0.mk hr0
  have HC0 := Aside0.mk hc0
  have HR1 := Aside0.mk hr1
  have HC1 := Aside0.mk hc1
  have HR2 := Aside0.mk hr2
  have HC2 := Aside0.mk hc2
  clear hr0 hc0 hr1 hc1 hr2 hc2
  have F1 := Aside0.mk h1
  have F2 := Aside0.mk h2
  have F3 := Aside0.mk h3
  have F4 := Aside0.mk h4
  have F5 := Aside0.mk h5
  clear h1 h2 h3 h4 h5
  go_enter Try.func4, Try.ntmps4
  go_wp2_with (first
    | (go_at_call 10; (with_reducible refine (pelicanlaw06_awake.calls true _ rfl).mono ?_); rintro e w_ ⟨rfl, hb_⟩; have X1 := Aside0.mk (blk_below (two_allocs_ w (.cells #[.int .i64 u.f0, .int .i64 u.f1, .slice A1 u.f2.length c1] 24 (0, 0)) (.cells #[.int .i64 t.f0, .int .i64 t.f1, .slice A2 t.f2.length c2] 24 (0, 0))).1 hb_); have X2 := Aside0.mk (blk_below (two_allocs_ w (.cells #[.int .i64 u.f0, .int .i64 u.f1, .slice A1 u.f2.length c1] 24 (0, 0)) (.cells #[.int .i64 t.f0, .int .i64 t.f1, .slice A2 t.f2.length c2] 24 (0, 0))).2 hb_); have HB := Aside0.mk (below_step (below_alloc (below_alloc (Below.refl w.heap.size w) (.cells #[.int .i64 u.f0, .int .i64 u.f1, .slice A1 u.f2.length c1] 24 (0, 0))) (.cells #[.int .i64 t.f0, .int .i64 t.f1, .slice A2 t.f2.length c2] 24 (0, 0))) hb_); clear hb_; obtain ⟨⟨k0, k1, k2⟩, j0, j1, j2⟩ := cells3 X1.out; obtain ⟨⟨m0, m1, m2⟩, i0, i1, i2⟩ := cells3 X2.out)
    | (go_at_call 11; (with_reducible refine (pelicanref05_LightAll.calls q1 A0 c0 l true _ (Kd.C_below HR0.out HB.out) HC0.out F1.out).mono ?_); rintro e w_ ⟨rfl, hb_⟩; clear k0 k1 k2 j0 j1 j2 m0 m1 m2 i0 i1 i2; have HB := Aside0.mk (below_step HB.out hb_); have X1 := Aside0.mk (blk_below X1.out hb_); have X2 := Aside0.mk (blk_below X2.out hb_); obtain ⟨⟨k0, k1, k2⟩, j0, j1, j2⟩ := cells3 X1.out; obtain ⟨⟨m0, m1, m2⟩, i0, i1, i2⟩ := cells3 X2.out; clear hb_)
    | (go_at_call 12; (with_reducible refine (pelicanref05_Light.calls q2 u.f0 u.f1 A1 c1 u.f2 true _ (Kd.C_below HR1.out HB.out) HC1.out F2.out).mono ?_); rintro e w_ ⟨rfl, hb_⟩; clear k0 k1 k2 j0 j1 j2 m0 m1 m2 i0 i1 i2; have HB := Aside0.mk (below_step HB.out hb_); have X1 := Aside0.mk (blk_below X1.out hb_); have X2 := Aside0.mk (blk_below X2.out hb_); obtain ⟨⟨k0, k1, k2⟩, j0, j1, j2⟩ := cells3 X1.out; obtain ⟨⟨m0, m1, m2⟩, i0, i1, i2⟩ := cells3 X2.out; clear hb_)
    | (go_at_call 12; (with_reducible refine (pelicanref05_Light.calls q3 t.f0 t.f1 A2 c2 t.f2 false _ (Kd.C_below HR2.out HB.out) HC2.out F3.out).mono ?_); rintro e w_ ⟨rfl, hb_⟩; clear k0 k1 k2 j0 j1 j2 m0 m1 m2 i0 i1 i2; have HB := Aside0.mk (below_step HB.out hb_); have X1 := Aside0.mk (blk_below X1.out hb_); have X2 := Aside0.mk (blk_below X2.out hb_); obtain ⟨⟨k0, k1, k2⟩, j0, j1, j2⟩ := cells3 X1.out; obtain ⟨⟨m0, m1, m2⟩, i0, i1, i2⟩ := cells3 X2.out; clear hb_)
    | (go_at_call 20; (with_reducible refine (know_May.calls A0 c0 l b4 _ (Kd.C_below HR0.out HB.out) HC0.out F4.out).mono ?_); rintro e w_ ⟨rfl, hb_⟩; clear k0 k1 k2 j0 j1 j2 m0 m1 m2 i0 i1 i2; have HB := Aside0.mk (below_step HB.out hb_); have X1 := Aside0.mk (blk_below X1.out hb_); have X2 := Aside0.mk (blk_below X2.out hb_); obtain ⟨⟨k0, k1, k2⟩, j0, j1, j2⟩ := cells3 X1.out; obtain ⟨⟨m0, m1, m2⟩, i0, i1, i2⟩ := cells3 X2.out; clear hb_)
    | (go_at_call 23; (with_reducible refine (term_May.calls u.f0 u.f1 A1 c1 u.f2 b5 _ (Kd.C_below HR1.out HB.out) HC1.out F5.out).mono ?_); rintro e w_ ⟨rfl, hb_⟩; clear k0 k1 k2 j0 j1 j2 m0 m1 m2 i0 i1 i2; have HB := Aside0.mk (below_step HB.out hb_); have X1 := Aside0.mk (blk_below X1.out hb_); have X2 := Aside0.mk (blk_below X2.out hb_); obtain ⟨⟨k0, k1, k2⟩, j0, j1, j2⟩ := cells3 X1.out; obtain ⟨⟨m0, m1, m2⟩, i0, i1, i2⟩ := cells3 X2.out; clear hb_))
  go_ret
  exact ⟨rfl, HB.out⟩
set_option maxRecDepth 100000 in
set_option maxHeartbeats 4000000 in
theorem more_len (l : List S24) (u t : S24) (A0 A1 A2 : Option Addr) (c0 c1 c2 : Nat) (i : Int) (w : World) (hr0 : Kd.C k24 w A0 l.length l) (hc0 : l.length ≤ c0) (hr1 : Kd.C k24 w A1 u.f2.length u.f2) (hc1 : u.f2.length ≤ c1) (hr2 : Kd.C k24 w A2 t.f2.length t.f2) (hc2 : t.f2.length ≤ c2) (q1 q2 q3 : Nat) (b4 : Bool) (b5 : Bool) (h1 : pelicanref05_LightAll.f q1 l = some true) (h2 : pelicanref05_Light.f q2 u.f0 u.f1 u.f2 = some true) (h3 : pelicanref05_Light.f q3 t.f0 t.f1 t.f2 = some true) (h4 : know_May.f l = some b4) (h5 : term_May.f u.f0 u.f1 u.f2 = some b5) (d : (20 : Int) < (l.length : Int)) :
    Calls Try.prog 4 #[.slice A0 l.length c0, .agg #[.int .i64 u.f0, .int .i64 u.f1, .slice A1 u.f2.length c1], .agg #[.int .i64 t.f0, .int .i64 t.f1, .slice A2 t.f2.length c2], .int .i64 i] w fun e w' => e = .returned (.bool true) ∧ Below w.heap.size w w' := by
  have HR0 := Aside0.mk hr0
  have HC0 := Aside0.mk hc0
  have HR1 := Aside0.mk hr1
  have HC1 := Aside0.mk hc1
  have HR2 := Aside0.mk hr2
  have HC2 := Aside0.mk hc2
  clear hr0 hc0 hr1 hc1 hr2 hc2
  have F1 := Aside0.mk h1
  have F2 := Aside0.mk h2
  have F3 := Aside0.mk h3
  have F4 := Aside0.mk h4
  have F5 := Aside0.mk h5
  clear h1 h2 h3 h4 h5
  go_enter Try.func4, Try.ntmps4
  go_wp2_with (first
    | (go_at_call 10; (with_reducible refine (pelicanlaw06_awake.calls true _ rfl).mono ?_); rintro e w_ ⟨rfl, hb_⟩; have X1 := Aside0.mk (blk_below (two_allocs_ w (.cells #[.int .i64 u.f0, .int .i64 u.f1, .slice A1 u.f2.length c1] 24 (0, 0)) (.cells #[.int .i64 t.f0, .int .i64 t.f1, .slice A2 t.f2.length c2] 24 (0, 0))).1 hb_); have X2 := Aside0.mk (blk_below (two_allocs_ w (.cells #[.int .i64 u.f0, .int .i64 u.f1, .slice A1 u.f2.length c1] 24 (0, 0)) (.cells #[.int .i64 t.f0, .int .i64 t.f1, .slice A2 t.f2.length c2] 24 (0, 0))).2 hb_); have HB := Aside0.mk (below_step (below_alloc (below_alloc (Below.refl w.heap.size w) (.cells #[.int .i64 u.f0, .int .i64 u.f1, .slice A1 u.f2.length c1] 24 (0, 0))) (.cells #[.int .i64 t.f0, .int .i64 t.f1, .slice A2 t.f2.length c2] 24 (0, 0))) hb_); clear hb_; obtain ⟨⟨k0, k1, k2⟩, j0, j1, j2⟩ := cells3 X1.out; obtain ⟨⟨m0, m1, m2⟩, i0, i1, i2⟩ := cells3 X2.out)
    | (go_at_call 11; (with_reducible refine (pelicanref05_LightAll.calls q1 A0 c0 l true _ (Kd.C_below HR0.out HB.out) HC0.out F1.out).mono ?_); rintro e w_ ⟨rfl, hb_⟩; clear k0 k1 k2 j0 j1 j2 m0 m1 m2 i0 i1 i2; have HB := Aside0.mk (below_step HB.out hb_); have X1 := Aside0.mk (blk_below X1.out hb_); have X2 := Aside0.mk (blk_below X2.out hb_); obtain ⟨⟨k0, k1, k2⟩, j0, j1, j2⟩ := cells3 X1.out; obtain ⟨⟨m0, m1, m2⟩, i0, i1, i2⟩ := cells3 X2.out; clear hb_)
    | (go_at_call 12; (with_reducible refine (pelicanref05_Light.calls q2 u.f0 u.f1 A1 c1 u.f2 true _ (Kd.C_below HR1.out HB.out) HC1.out F2.out).mono ?_); rintro e w_ ⟨rfl, hb_⟩; clear k0 k1 k2 j0 j1 j2 m0 m1 m2 i0 i1 i2; have HB := Aside0.mk (below_step HB.out hb_); have X1 := Aside0.mk (blk_below X1.out hb_); have X2 := Aside0.mk (blk_below X2.out hb_); obtain ⟨⟨k0, k1, k2⟩, j0, j1, j2⟩ := cells3 X1.out; obtain ⟨⟨m0, m1, m2⟩, i0, i1, i2⟩ := cells3 X2.out; clear hb_)
    | (go_at_call 12; (with_reducible refine (pelicanref05_Light.calls q3 t.f0 t.f1 A2 c2 t.f2 true _ (Kd.C_below HR2.out HB.out) HC2.out F3.out).mono ?_); rintro e w_ ⟨rfl, hb_⟩; clear k0 k1 k2 j0 j1 j2 m0 m1 m2 i0 i1 i2; have HB := Aside0.mk (below_step HB.out hb_); have X1 := Aside0.mk (blk_below X1.out hb_); have X2 := Aside0.mk (blk_below X2.out hb_); obtain ⟨⟨k0, k1, k2⟩, j0, j1, j2⟩ := cells3 X1.out; obtain ⟨⟨m0, m1, m2⟩, i0, i1, i2⟩ := cells3 X2.out; clear hb_)
    | (go_at_call 20; (with_reducible refine (know_May.calls A0 c0 l b4 _ (Kd.C_below HR0.out HB.out) HC0.out F4.out).mono ?_); rintro e w_ ⟨rfl, hb_⟩; clear k0 k1 k2 j0 j1 j2 m0 m1 m2 i0 i1 i2; have HB := Aside0.mk (below_step HB.out hb_); have X1 := Aside0.mk (blk_below X1.out hb_); have X2 := Aside0.mk (blk_below X2.out hb_); obtain ⟨⟨k0, k1, k2⟩, j0, j1, j2⟩ := cells3 X1.out; obtain ⟨⟨m0, m1, m2⟩, i0, i1, i2⟩ := cells3 X2.out; clear hb_)
    | (go_at_call 23; (with_reducible refine (term_May.calls u.f0 u.f1 A1 c1 u.f2 b5 _ (Kd.C_below HR1.out HB.out) HC1.out F5.out).mono ?_); rintro e w_ ⟨rfl, hb_⟩; clear k0 k1 k2 j0 j1 j2 m0 m1 m2 i0 i1 i2; have HB := Aside0.mk (below_step HB.out hb_); have X1 := Aside0.mk (blk_below X1.out hb_); have X2 := Aside0.mk (blk_below X2.out hb_); obtain ⟨⟨k0, k1, k2⟩, j0, j1, j2⟩ := cells3 X1.out; obtain ⟨⟨m0, m1, m2⟩, i0, i1, i2⟩ := cells3 X2.out; clear hb_))
  go_ret
  exact ⟨rfl, HB.out⟩
set_option maxRecDepth 100000 in
set_option maxHeartbeats 4000000 in
theorem more_o4 (l : List S24) (u t : S24) (A0 A1 A2 : Option Addr) (c0 c1 c2 : Nat) (i : Int) (w : World) (hr0 : Kd.C k24 w A0 l.length l) (hc0 : l.length ≤ c0) (hr1 : Kd.C k24 w A1 u.f2.length u.f2) (hc1 : u.f2.length ≤ c1) (hr2 : Kd.C k24 w A2 t.f2.length t.f2) (hc2 : t.f2.length ≤ c2) (q1 q2 q3 : Nat) (b5 : Bool) (h1 : pelicanref05_LightAll.f q1 l = some true) (h2 : pelicanref05_Light.f q2 u.f0 u.f1 u.f2 = some true) (h3 : pelicanref05_Light.f q3 t.f0 t.f1 t.f2 = some true) (h4 : know_May.f l = some false) (h5 : term_May.f u.f0 u.f1 u.f2 = some b5) (d : (l.length : Int) ≤ 20) :
    Calls Try.prog 4 #[.slice A0 l.length c0, .agg #[.int .i64 u.f0, .int .i64 u.f1, .slice A1 u.f2.length c1], .agg #[.int .i64 t.f0, .int .i64 t.f1, .slice A2 t.f2.length c2], .int .i64 i] w fun e w' => e = .returned (.bool true) ∧ Below w.heap.size w w' := by
  have HR0 := Aside0.mk hr0
  have HC0 := Aside0.mk hc0
  have HR1 := Aside0.mk hr1
  have HC1 := Aside0.mk hc1
  have HR2 := Aside0.mk hr2
  have HC2 := Aside0.mk hc2
  clear hr0 hc0 hr1 hc1 hr2 hc2
  have F1 := Aside0.mk h1
  have F2 := Aside0.mk h2
  have F3 := Aside0.mk h3
  have F4 := Aside0.mk h4
  have F5 := Aside0.mk h5
  clear h1 h2 h3 h4 h5
  go_enter Try.func4, Try.ntmps4
  go_wp2_with (first
    | (go_at_call 10; (with_reducible refine (pelicanlaw06_awake.calls true _ rfl).mono ?_); rintro e w_ ⟨rfl, hb_⟩; have X1 := Aside0.mk (blk_below (two_allocs_ w (.cells #[.int .i64 u.f0, .int .i64 u.f1, .slice A1 u.f2.length c1] 24 (0, 0)) (.cells #[.int .i64 t.f0, .int .i64 t.f1, .slice A2 t.f2.length c2] 24 (0, 0))).1 hb_); have X2 := Aside0.mk (blk_below (two_allocs_ w (.cells #[.int .i64 u.f0, .int .i64 u.f1, .slice A1 u.f2.length c1] 24 (0, 0)) (.cells #[.int .i64 t.f0, .int .i64 t.f1, .slice A2 t.f2.length c2] 24 (0, 0))).2 hb_); have HB := Aside0.mk (below_step (below_alloc (below_alloc (Below.refl w.heap.size w) (.cells #[.int .i64 u.f0, .int .i64 u.f1, .slice A1 u.f2.length c1] 24 (0, 0))) (.cells #[.int .i64 t.f0, .int .i64 t.f1, .slice A2 t.f2.length c2] 24 (0, 0))) hb_); clear hb_; obtain ⟨⟨k0, k1, k2⟩, j0, j1, j2⟩ := cells3 X1.out; obtain ⟨⟨m0, m1, m2⟩, i0, i1, i2⟩ := cells3 X2.out)
    | (go_at_call 11; (with_reducible refine (pelicanref05_LightAll.calls q1 A0 c0 l true _ (Kd.C_below HR0.out HB.out) HC0.out F1.out).mono ?_); rintro e w_ ⟨rfl, hb_⟩; clear k0 k1 k2 j0 j1 j2 m0 m1 m2 i0 i1 i2; have HB := Aside0.mk (below_step HB.out hb_); have X1 := Aside0.mk (blk_below X1.out hb_); have X2 := Aside0.mk (blk_below X2.out hb_); obtain ⟨⟨k0, k1, k2⟩, j0, j1, j2⟩ := cells3 X1.out; obtain ⟨⟨m0, m1, m2⟩, i0, i1, i2⟩ := cells3 X2.out; clear hb_)
    | (go_at_call 12; (with_reducible refine (pelicanref05_Light.calls q2 u.f0 u.f1 A1 c1 u.f2 true _ (Kd.C_below HR1.out HB.out) HC1.out F2.out).mono ?_); rintro e w_ ⟨rfl, hb_⟩; clear k0 k1 k2 j0 j1 j2 m0 m1 m2 i0 i1 i2; have HB := Aside0.mk (below_step HB.out hb_); have X1 := Aside0.mk (blk_below X1.out hb_); have X2 := Aside0.mk (blk_below X2.out hb_); obtain ⟨⟨k0, k1, k2⟩, j0, j1, j2⟩ := cells3 X1.out; obtain ⟨⟨m0, m1, m2⟩, i0, i1, i2⟩ := cells3 X2.out; clear hb_)
    | (go_at_call 12; (with_reducible refine (pelicanref05_Light.calls q3 t.f0 t.f1 A2 c2 t.f2 true _ (Kd.C_below HR2.out HB.out) HC2.out F3.out).mono ?_); rintro e w_ ⟨rfl, hb_⟩; clear k0 k1 k2 j0 j1 j2 m0 m1 m2 i0 i1 i2; have HB := Aside0.mk (below_step HB.out hb_); have X1 := Aside0.mk (blk_below X1.out hb_); have X2 := Aside0.mk (blk_below X2.out hb_); obtain ⟨⟨k0, k1, k2⟩, j0, j1, j2⟩ := cells3 X1.out; obtain ⟨⟨m0, m1, m2⟩, i0, i1, i2⟩ := cells3 X2.out; clear hb_)
    | (go_at_call 20; (with_reducible refine (know_May.calls A0 c0 l false _ (Kd.C_below HR0.out HB.out) HC0.out F4.out).mono ?_); rintro e w_ ⟨rfl, hb_⟩; clear k0 k1 k2 j0 j1 j2 m0 m1 m2 i0 i1 i2; have HB := Aside0.mk (below_step HB.out hb_); have X1 := Aside0.mk (blk_below X1.out hb_); have X2 := Aside0.mk (blk_below X2.out hb_); obtain ⟨⟨k0, k1, k2⟩, j0, j1, j2⟩ := cells3 X1.out; obtain ⟨⟨m0, m1, m2⟩, i0, i1, i2⟩ := cells3 X2.out; clear hb_)
    | (go_at_call 23; (with_reducible refine (term_May.calls u.f0 u.f1 A1 c1 u.f2 b5 _ (Kd.C_below HR1.out HB.out) HC1.out F5.out).mono ?_); rintro e w_ ⟨rfl, hb_⟩; clear k0 k1 k2 j0 j1 j2 m0 m1 m2 i0 i1 i2; have HB := Aside0.mk (below_step HB.out hb_); have X1 := Aside0.mk (blk_below X1.out hb_); have X2 := Aside0.mk (blk_below X2.out hb_); obtain ⟨⟨k0, k1, k2⟩, j0, j1, j2⟩ := cells3 X1.out; obtain ⟨⟨m0, m1, m2⟩, i0, i1, i2⟩ := cells3 X2.out; clear hb_))
  go_ret
  exact ⟨rfl, HB.out⟩
set_option maxRecDepth 100000 in
set_option maxHeartbeats 4000000 in
theorem more_o5 (l : List S24) (u t : S24) (A0 A1 A2 : Option Addr) (c0 c1 c2 : Nat) (i : Int) (w : World) (hr0 : Kd.C k24 w A0 l.length l) (hc0 : l.length ≤ c0) (hr1 : Kd.C k24 w A1 u.f2.length u.f2) (hc1 : u.f2.length ≤ c1) (hr2 : Kd.C k24 w A2 t.f2.length t.f2) (hc2 : t.f2.length ≤ c2) (q1 q2 q3 : Nat)  (h1 : pelicanref05_LightAll.f q1 l = some true) (h2 : pelicanref05_Light.f q2 u.f0 u.f1 u.f2 = some true) (h3 : pelicanref05_Light.f q3 t.f0 t.f1 t.f2 = some true) (h4 : know_May.f l = some true) (h5 : term_May.f u.f0 u.f1 u.f2 = some false) (d : (l.length : Int) ≤ 20) :
    Calls Try.prog 4 #[.slice A0 l.length c0, .agg #[.int .i64 u.f0, .int .i64 u.f1, .slice A1 u.f2.length c1], .agg #[.int .i64 t.f0, .int .i64 t.f1, .slice A2 t.f2.length c2], .int .i64 i] w fun e w' => e = .returned (.bool true) ∧ Below w.heap.size w w' := by
  have HR0 := Aside0.mk hr0
  have HC0 := Aside0.mk hc0
  have HR1 := Aside0.mk hr1
  have HC1 := Aside0.mk hc1
  have HR2 := Aside0.mk hr2
  have HC2 := Aside0.mk hc2
  clear hr0 hc0 hr1 hc1 hr2 hc2
  have F1 := Aside0.mk h1
  have F2 := Aside0.mk h2
  have F3 := Aside0.mk h3
  have F4 := Aside0.mk h4
  have F5 := Aside0.mk h5
  clear h1 h2 h3 h4 h5
  go_enter Try.func4, Try.ntmps4
  go_wp2_with (first
    | (go_at_call 10; (with_reducible refine (pelicanlaw06_awake.calls true _ rfl).mono ?_); rintro e w_ ⟨rfl, hb_⟩; have X1 := Aside0.mk (blk_below (two_allocs_ w (.cells #[.int .i64 u.f0, .int .i64 u.f1, .slice A1 u.f2.length c1] 24 (0, 0)) (.cells #[.int .i64 t.f0, .int .i64 t.f1, .slice A2 t.f2.length c2] 24 (0, 0))).1 hb_); have X2 := Aside0.mk (blk_below (two_allocs_ w (.cells #[.int .i64 u.f0, .int .i64 u.f1, .slice A1 u.f2.length c1] 24 (0, 0)) (.cells #[.int .i64 t.f0, .int .i64 t.f1, .slice A2 t.f2.length c2] 24 (0, 0))).2 hb_); have HB := Aside0.mk (below_step (below_alloc (below_alloc (Below.refl w.heap.size w) (.cells #[.int .i64 u.f0, .int .i64 u.f1, .slice A1 u.f2.length c1] 24 (0, 0))) (.cells #[.int .i64 t.f0, .int .i64 t.f1, .slice A2 t.f2.length c2] 24 (0, 0))) hb_); clear hb_; obtain ⟨⟨k0, k1, k2⟩, j0, j1, j2⟩ := cells3 X1.out; obtain ⟨⟨m0, m1, m2⟩, i0, i1, i2⟩ := cells3 X2.out)
    | (go_at_call 11; (with_reducible refine (pelicanref05_LightAll.calls q1 A0 c0 l true _ (Kd.C_below HR0.out HB.out) HC0.out F1.out).mono ?_); rintro e w_ ⟨rfl, hb_⟩; clear k0 k1 k2 j0 j1 j2 m0 m1 m2 i0 i1 i2; have HB := Aside0.mk (below_step HB.out hb_); have X1 := Aside0.mk (blk_below X1.out hb_); have X2 := Aside0.mk (blk_below X2.out hb_); obtain ⟨⟨k0, k1, k2⟩, j0, j1, j2⟩ := cells3 X1.out; obtain ⟨⟨m0, m1, m2⟩, i0, i1, i2⟩ := cells3 X2.out; clear hb_)
    | (go_at_call 12; (with_reducible refine (pelicanref05_Light.calls q2 u.f0 u.f1 A1 c1 u.f2 true _ (Kd.C_below HR1.out HB.out) HC1.out F2.out).mono ?_); rintro e w_ ⟨rfl, hb_⟩; clear k0 k1 k2 j0 j1 j2 m0 m1 m2 i0 i1 i2; have HB := Aside0.mk (below_step HB.out hb_); have X1 := Aside0.mk (blk_below X1.out hb_); have X2 := Aside0.mk (blk_below X2.out hb_); obtain ⟨⟨k0, k1, k2⟩, j0, j1, j2⟩ := cells3 X1.out; obtain ⟨⟨m0, m1, m2⟩, i0, i1, i2⟩ := cells3 X2.out; clear hb_)
    | (go_at_call 12; (with_reducible refine (pelicanref05_Light.calls q3 t.f0 t.f1 A2 c2 t.f2 true _ (Kd.C_below HR2.out HB.out) HC2.out F3.out).mono ?_); rintro e w_ ⟨rfl, hb_⟩; clear k0 k1 k2 j0 j1 j2 m0 m1 m2 i0 i1 i2; have HB := Aside0.mk (below_step HB.out hb_); have X1 := Aside0.mk (blk_below X1.out hb_); have X2 := Aside0.mk (blk_below X2.out hb_); obtain ⟨⟨k0, k1, k2⟩, j0, j1, j2⟩ := cells3 X1.out; obtain ⟨⟨m0, m1, m2⟩, i0, i1, i2⟩ := cells3 X2.out; clear hb_)
    | (go_at_call 20; (with_reducible refine (know_May.calls A0 c0 l true _ (Kd.C_below HR0.out HB.out) HC0.out F4.out).mono ?_); rintro e w_ ⟨rfl, hb_⟩; clear k0 k1 k2 j0 j1 j2 m0 m1 m2 i0 i1 i2; have HB := Aside0.mk (below_step HB.out hb_); have X1 := Aside0.mk (blk_below X1.out hb_); have X2 := Aside0.mk (blk_below X2.out hb_); obtain ⟨⟨k0, k1, k2⟩, j0, j1, j2⟩ := cells3 X1.out; obtain ⟨⟨m0, m1, m2⟩, i0, i1, i2⟩ := cells3 X2.out; clear hb_)
    | (go_at_call 23; (with_reducible refine (term_May.calls u.f0 u.f1 A1 c1 u.f2 false _ (Kd.C_below HR1.out HB.out) HC1.out F5.out).mono ?_); rintro e w_ ⟨rfl, hb_⟩; clear k0 k1 k2 j0 j1 j2 m0 m1 m2 i0 i1 i2; have HB := Aside0.mk (below_step HB.out hb_); have X1 := Aside0.mk (blk_below X1.out hb_); have X2 := Aside0.mk (blk_below X2.out hb_); obtain ⟨⟨k0, k1, k2⟩, j0, j1, j2⟩ := cells3 X1.out; obtain ⟨⟨m0, m1, m2⟩, i0, i1, i2⟩ := cells3 X2.out; clear hb_))
  go_ret
  exact ⟨rfl, HB.out⟩
set_option maxRecDepth 100000 in
set_option maxHeartbeats 16000000 in
theorem more_main (l : List S24) (u t : S24) (A0 A1 A2 : Option Addr) (c0 c1 c2 : Nat) (i : Int) (w : World) (hr0 : Kd.C k24 w A0 l.length l) (hc0 : l.length ≤ c0) (hr1 : Kd.C k24 w A1 u.f2.length u.f2) (hc1 : u.f2.length ≤ c1) (hr2 : Kd.C k24 w A2 t.f2.length t.f2) (hc2 : t.f2.length ≤ c2) (q1 q2 q3 : Nat)  (h1 : pelicanref05_LightAll.f q1 l = some true) (h2 : pelicanref05_Light.f q2 u.f0 u.f1 u.f2 = some true) (h3 : pelicanref05_Light.f q3 t.f0 t.f1 t.f2 = some true) (h4 : know_May.f l = some true) (h5 : term_May.f u.f0 u.f1 u.f2 = some true) (d1 : (l.length : Int) ≤ 20) (hm : know_Parts.f l = some (partsOf l)) (mk mm : Bool) (hmk : know_Makes.f l t.f0 t.f1 t.f2 = some mk) (hmm : know_Makes.f (l ++ [u]) t.f0 t.f1 t.f2 = some mm) (himp : mk = true → mm = true) (hpm : ∀ y ∈ partsOf l, know_Makes.f l y.f0 y.f1 y.f2 = some true) :
    Calls Try.prog 4 #[.slice A0 l.length c0, .agg #[.int .i64 u.f0, .int .i64 u.f1, .slice A1 u.f2.length c1], .agg #[.int .i64 t.f0, .int .i64 t.f1, .slice A2 t.f2.length c2], .int .i64 i] w fun e w' => e = .returned (.bool true) ∧ Below w.heap.size w w' := by
  have HR0 := Aside0.mk hr0
  have HC0 := Aside0.mk hc0
  have HR1 := Aside0.mk hr1
  have HC1 := Aside0.mk hc1
  have HR2 := Aside0.mk hr2
  have HC2 := Aside0.mk hc2
  clear hr0 hc0 hr1 hc1 hr2 hc2
  have F1 := Aside0.mk h1
  have F2 := Aside0.mk h2
  have F3 := Aside0.mk h3
  have F4 := Aside0.mk h4
  have F5 := Aside0.mk h5
  clear h1 h2 h3 h4 h5
  have HLN := Aside0.mk (show l.length ≤ 20 by omega)
  have FM1 := Aside0.mk hmk
  have FM2 := Aside0.mk hmm
  have FP := Aside0.mk hm
  have HPM := Aside0.mk hpm
  clear hm hpm
  clear hmk hmm
  go_enter Try.func4, Try.ntmps4
  go_upto_region 7 with (first
    | (go_at_call 10; (with_reducible refine (pelicanlaw06_awake.calls true _ rfl).mono ?_); rintro e w_ ⟨rfl, hb_⟩; have X1 := Aside0.mk (blk_below (two_allocs_ w (.cells #[.int .i64 u.f0, .int .i64 u.f1, .slice A1 u.f2.length c1] 24 (0, 0)) (.cells #[.int .i64 t.f0, .int .i64 t.f1, .slice A2 t.f2.length c2] 24 (0, 0))).1 hb_); have X2 := Aside0.mk (blk_below (two_allocs_ w (.cells #[.int .i64 u.f0, .int .i64 u.f1, .slice A1 u.f2.length c1] 24 (0, 0)) (.cells #[.int .i64 t.f0, .int .i64 t.f1, .slice A2 t.f2.length c2] 24 (0, 0))).2 hb_); have HB := Aside0.mk (below_step (below_alloc (below_alloc (Below.refl w.heap.size w) (.cells #[.int .i64 u.f0, .int .i64 u.f1, .slice A1 u.f2.length c1] 24 (0, 0))) (.cells #[.int .i64 t.f0, .int .i64 t.f1, .slice A2 t.f2.length c2] 24 (0, 0))) hb_); clear hb_; obtain ⟨⟨k0, k1, k2⟩, j0, j1, j2⟩ := cells3 X1.out; obtain ⟨⟨m0, m1, m2⟩, i0, i1, i2⟩ := cells3 X2.out)
    | (go_at_call 11; (with_reducible refine (pelicanref05_LightAll.calls q1 A0 c0 l true _ (Kd.C_below HR0.out HB.out) HC0.out F1.out).mono ?_); rintro e w_ ⟨rfl, hb_⟩; clear k0 k1 k2 j0 j1 j2 m0 m1 m2 i0 i1 i2; have HB := Aside0.mk (below_step HB.out hb_); have X1 := Aside0.mk (blk_below X1.out hb_); have X2 := Aside0.mk (blk_below X2.out hb_); obtain ⟨⟨k0, k1, k2⟩, j0, j1, j2⟩ := cells3 X1.out; obtain ⟨⟨m0, m1, m2⟩, i0, i1, i2⟩ := cells3 X2.out; clear hb_)
    | (go_at_call 12; (with_reducible refine (pelicanref05_Light.calls q2 u.f0 u.f1 A1 c1 u.f2 true _ (Kd.C_below HR1.out HB.out) HC1.out F2.out).mono ?_); rintro e w_ ⟨rfl, hb_⟩; clear k0 k1 k2 j0 j1 j2 m0 m1 m2 i0 i1 i2; have HB := Aside0.mk (below_step HB.out hb_); have X1 := Aside0.mk (blk_below X1.out hb_); have X2 := Aside0.mk (blk_below X2.out hb_); obtain ⟨⟨k0, k1, k2⟩, j0, j1, j2⟩ := cells3 X1.out; obtain ⟨⟨m0, m1, m2⟩, i0, i1, i2⟩ := cells3 X2.out; clear hb_)
    | (go_at_call 12; (with_reducible refine (pelicanref05_Light.calls q3 t.f0 t.f1 A2 c2 t.f2 true _ (Kd.C_below HR2.out HB.out) HC2.out F3.out).mono ?_); rintro e w_ ⟨rfl, hb_⟩; clear k0 k1 k2 j0 j1 j2 m0 m1 m2 i0 i1 i2; have HB := Aside0.mk (below_step HB.out hb_); have X1 := Aside0.mk (blk_below X1.out hb_); have X2 := Aside0.mk (blk_below X2.out hb_); obtain ⟨⟨k0, k1, k2⟩, j0, j1, j2⟩ := cells3 X1.out; obtain ⟨⟨m0, m1, m2⟩, i0, i1, i2⟩ := cells3 X2.out; clear hb_)
    | (go_at_call 20; (with_reducible refine (know_May.calls A0 c0 l true _ (Kd.C_below HR0.out HB.out) HC0.out F4.out).mono ?_); rintro e w_ ⟨rfl, hb_⟩; clear k0 k1 k2 j0 j1 j2 m0 m1 m2 i0 i1 i2; have HB := Aside0.mk (below_step HB.out hb_); have X1 := Aside0.mk (blk_below X1.out hb_); have X2 := Aside0.mk (blk_below X2.out hb_); obtain ⟨⟨k0, k1, k2⟩, j0, j1, j2⟩ := cells3 X1.out; obtain ⟨⟨m0, m1, m2⟩, i0, i1, i2⟩ := cells3 X2.out; clear hb_)
    | (go_at_call 23; (with_reducible refine (term_May.calls u.f0 u.f1 A1 c1 u.f2 true _ (Kd.C_below HR1.out HB.out) HC1.out F5.out).mono ?_); rintro e w_ ⟨rfl, hb_⟩; clear k0 k1 k2 j0 j1 j2 m0 m1 m2 i0 i1 i2; have HB := Aside0.mk (below_step HB.out hb_); have X1 := Aside0.mk (blk_below X1.out hb_); have X2 := Aside0.mk (blk_below X2.out hb_); obtain ⟨⟨k0, k1, k2⟩, j0, j1, j2⟩ := cells3 X1.out; obtain ⟨⟨m0, m1, m2⟩, i0, i1, i2⟩ := cells3 X2.out; clear hb_))
  obtain ⟨w1, hw1⟩ : ∃ w1, w1 = w_ := ⟨_, rfl⟩
  subst hw1
  have HBd := Aside0.mk (below_drew HB.out)
  have X1d := Aside0.mk (blk_drew X1.out)
  have X2d := Aside0.mk (blk_drew X2.out)
  have HFL := Aside0.mk (Kd.F_below (Kd.C_F k24_heap HR0.out) HBd.out)
  have HFU := Aside0.mk (Kd.F_below (Kd.C_F k24_heap HR1.out) HBd.out)
  have HSZ := Aside0.mk HBd.out.size
  clear k0 k1 k2 j0 j1 j2 m0 m1 m2 i0 i1 i2 HB X1 X2
  obtain ⟨⟨k0, k1, k2⟩, j0, j1, j2⟩ := cells3 X1d.out
  go_cut [13] (fun v13 wc => ∃ (An : Option Addr) (cn : Nat), v13 = .slice An (l.length + 1) cn ∧ Aside0 (l.length + 1 ≤ cn) ∧ Aside0 (Kd.C k24 wc An (l.length + 1) (l ++ [u])) ∧ Aside0 (wc.heap[w.heap.size]? = some (.cells #[.int .i64 u.f0, .int .i64 u.f1, .slice A1 u.f2.length c1] 24 (0, 0))) ∧ Aside0 (wc.heap[w.heap.size + 1]? = some (.cells #[.int .i64 t.f0, .int .i64 t.f1, .slice A2 t.f2.length c2] 24 (0, 0))) ∧ Aside0 (Below w.heap.size w wc))
  case first =>
    refine start_ (n := 6) (S := fun w' => w'.cell? ⟨w.heap.size, 0, none⟩ = some (.int .i64 u.f0) ∧ w'.cell? ⟨w.heap.size, 1, none⟩ = some (.int .i64 u.f1) ∧ w'.cell? ⟨w.heap.size, 2, none⟩ = some (.slice A1 u.f2.length c1)) (ds := []) #[false, false, false, false, false, false] (by kernel_rfl) rfl rfl ⟨k0, k1, k2⟩ (fun hHeld => ?_)
    refine pure_ (i := 0) (N := some 52) (v := ?_) (a' := ?_) #[true, false, false, false, false, false] rfl rfl (by kernel_rfl) (fun _ _ _ h => h) (Or.inl ⟨by rfl, ?_⟩) ?_ ?_
    rotate_left
    · intro w'
      go_simp
      with_reducible rfl
    rotate_left
    · simp only [Act.put, List.setIfInBounds_toArray, List.set_cons_zero, List.set_cons_succ, i64_w, i32_w]
      rfl
    refine take_ (i := 2) (N := some 54) (v := ?_) (a' := ?_) #[true, false, true, false, false, false] rfl rfl (by kernel_rfl) (fun _ _ _ h => h) (Or.inl ⟨by rfl, ?_⟩) hHeld ?_ ?_
    rotate_left
    · rintro w' ⟨s0, s1, s2⟩
      go_simp
      with_reducible rfl
    rotate_left
    · simp only [Act.put, List.setIfInBounds_toArray, List.set_cons_zero, List.set_cons_succ, i64_w, i32_w]
      rfl
    refine two_ (i := 1) (j := 3) (Ni := some 53) (Nj := some 55) #[true, true, true, false, false, false] #[true, false, true, true, false, false] rfl rfl rfl rfl (by kernel_rfl) (by decide) (by decide) (fun K hK => ?_) (fun K hK => ?_)
    · skip
      refine Kd.N_append_rows_step k24 (w0 := w1.drew) w1.drew.heap.size (by rfl) (.const (.slice none 0 0)) (.tmp 52) 22 24 zT 40 (by rfl) Try.underlying22 info24 rfl (by decide) (by omega) (.slice none 0 0) ([] : List S24) l A0 l.length c0 (fun _ => True) (fun k => k < w.heap.size) (by rfl) (by rfl) (Kd.N_nil k24 24 _ _ _) (Kd.F_below HFL.out (Below.refl w1.drew.heap.size w1.drew)) (fun k hk => ⟨trivial, by simp [Value.ownBlock]⟩) (fun k hk => trivial) (Below.refl w1.drew.heap.size w1.drew) (below_size (Below.refl w1.drew.heap.size w1.drew)) (by have := HLN.out; simp; omega) ?_
      intro v' wA hN hb hg hat
      rw [List.nil_append] at hN
      obtain ⟨An, cn, rfl⟩ := Kd.N_slice hN
      have HNA := Aside0.mk hN
      have HBA := Aside0.mk hb
      have HGA := Aside0.mk hg
      have HAA := Aside0.mk hat
      clear hN hb hg hat
      obtain ⟨⟨a0, a1, a2⟩, _⟩ := cells3 (blk_below X1d.out HBA.out)
      refine hK.out _ _ ⟨a0, a1, a2⟩ (fun hHeld => ?_)
      clear hK K
      refine norm_ (a' := ?_) ?_ ?_
      rotate_left
      · show Act.put _ (some 53) _ = _
        simp only [Act.put, List.setIfInBounds_toArray, List.set_cons_zero, List.set_cons_succ, i64_w, i32_w]
        rfl
      refine one_ (i := 3) (N := some 55) #[true, true, true, true, false, false] rfl rfl (by kernel_rfl) (by decide) (fun K hK => ?_)
      refine value_ (w1 := ?_) (v := ?_) (by rfl) rfl ?_ ?_
      rotate_left 2
      · go_simp
        constructor
        · rfl
        · rfl
      obtain ⟨⟨b0, b1, b2⟩, _⟩ := cells3 (blk_alloc (blk_below X1d.out HBA.out) (.cells #[.int .i64 u.f0, .int .i64 u.f1, .slice A1 u.f2.length c1] 24 (0, 0)))
      refine hK.out _ _ ⟨b0, b1, b2⟩ (fun hHeld => ?_)
      clear hK K
      refine norm_ (a' := ?_) ?_ ?_
      rotate_left
      · show Act.put _ (some 55) _ = _
        simp only [Act.put, List.setIfInBounds_toArray, List.set_cons_zero, List.set_cons_succ, i64_w, i32_w]
        rfl
      refine one_ (i := 4) (N := some 56) #[true, true, true, true, true, false] rfl rfl (by kernel_rfl) (by decide) (fun K hK => ?_)
      refine Kd.N_append_step k24 (w0 := w1.drew) w1.drew.heap.size (by rfl) (.tmp 53) (.tmp 55) 22 24 zT 40 (by rfl) Try.underlying22 info24 rfl (by decide) (by omega) (.slice An l.length cn) l u [.int .i64 u.f0, .int .i64 u.f1, .slice A1 u.f2.length c1] (fun _ => True) (fun k => k < w.heap.size) (by rfl) (by rfl) (k24_mkF _ _ u HC1.out (Kd.F_below HFU.out HBA.out)) (fun k hk => ⟨trivial, fun e => by have h1 := Kd.N_base HNA.out k e.symm; have h2 := HSZ.out; omega⟩) (fun k hk => trivial) HNA.out HBA.out (below_size HBA.out) (by have := HLN.out; omega) ?_
      intro v2 wF hN hb hg hat
      obtain ⟨Af, cf, ev, hlf, hCf⟩ := Kd.N_reads hN
      rw [List.length_append, List.length_singleton] at ev hlf hCf
      subst ev
      have HLF := Aside0.mk hlf
      have HCF := Aside0.mk hCf
      have HBF := Aside0.mk hb
      clear hN hb hg hat hlf hCf
      obtain ⟨⟨p0, p1, p2⟩, _⟩ := cells3 (blk_below X1d.out HBF.out)
      refine hK.out _ _ ⟨p0, p1, p2⟩ (fun hHeld => ?_)
      clear hK K
      refine norm_ (a' := ?_) ?_ ?_
      rotate_left
      · show Act.put _ (some 56) _ = _
        simp only [Act.put, List.setIfInBounds_toArray, List.set_cons_zero, List.set_cons_succ, i64_w, i32_w]
        rfl
      refine pure_ (i := 5) (N := some 13) (v := ?_) (a' := ?_) #[true, true, true, true, true, true] rfl rfl (by kernel_rfl) (fun _ _ _ h => h) (Or.inl ⟨by rfl, ?_⟩) ?_ ?_
      rotate_left
      · intro w'
        go_simp
        with_reducible rfl
      rotate_left
      · simp only [Act.put, List.setIfInBounds_toArray, List.set_cons_zero, List.set_cons_succ, i64_w, i32_w]
        rfl
      refine done_ (by kernel_rfl) ?_
      go_wp2
      go_meet
      case rel => exact ⟨_, _, rfl, HLF, HCF, ⟨blk_below X1d.out HBF.out⟩, ⟨blk_below X2d.out HBF.out⟩, ⟨below_step HBd.out HBF.out⟩⟩
    · skip
      refine value_ (w1 := ?_) (v := ?_) (by rfl) rfl ?_ ?_
      rotate_left 2
      · go_simp
        constructor
        · rfl
        · rfl
      obtain ⟨⟨b0, b1, b2⟩, _⟩ := cells3 (blk_alloc X1d.out (.cells #[.int .i64 u.f0, .int .i64 u.f1, .slice A1 u.f2.length c1] 24 (0, 0)))
      refine hK.out _ _ ⟨b0, b1, b2⟩ (fun hHeld => ?_)
      clear hK K
      refine norm_ (a' := ?_) ?_ ?_
      rotate_left
      · show Act.put _ (some 55) _ = _
        simp only [Act.put, List.setIfInBounds_toArray, List.set_cons_zero, List.set_cons_succ, i64_w, i32_w]
        rfl
      refine one_ (i := 1) (N := some 53) #[true, true, true, true, false, false] rfl rfl (by kernel_rfl) (by decide) (fun K hK => ?_)
      refine Kd.N_append_rows_step k24 (w0 := w1.drew) w1.drew.heap.size (by rfl) (.const (.slice none 0 0)) (.tmp 52) 22 24 zT 40 (by rfl) Try.underlying22 info24 rfl (by decide) (by omega) (.slice none 0 0) ([] : List S24) l A0 l.length c0 (fun _ => True) (fun k => k < w.heap.size) (by rfl) (by rfl) (Kd.N_nil k24 24 _ _ _) (Kd.F_below HFL.out (below_alloc (Below.refl w1.drew.heap.size w1.drew) (.cells #[.int .i64 u.f0, .int .i64 u.f1, .slice A1 u.f2.length c1] 24 (0, 0)))) (fun k hk => ⟨trivial, by simp [Value.ownBlock]⟩) (fun k hk => trivial) (below_alloc (Below.refl w1.drew.heap.size w1.drew) (.cells #[.int .i64 u.f0, .int .i64 u.f1, .slice A1 u.f2.length c1] 24 (0, 0))) (below_size (below_alloc (Below.refl w1.drew.heap.size w1.drew) (.cells #[.int .i64 u.f0, .int .i64 u.f1, .slice A1 u.f2.length c1] 24 (0, 0)))) (by have := HLN.out; simp; omega) ?_
      intro v' wA hN hb hg hat
      rw [List.nil_append] at hN
      obtain ⟨An, cn, rfl⟩ := Kd.N_slice hN
      have HNA := Aside0.mk hN
      have HBA := Aside0.mk hb
      have HGA := Aside0.mk hg
      have HAA := Aside0.mk hat
      clear hN hb hg hat
      obtain ⟨⟨a0, a1, a2⟩, _⟩ := cells3 (blk_below X1d.out HBA.out)
      refine hK.out _ _ ⟨a0, a1, a2⟩ (fun hHeld => ?_)
      clear hK K
      refine norm_ (a' := ?_) ?_ ?_
      rotate_left
      · show Act.put _ (some 53) _ = _
        simp only [Act.put, List.setIfInBounds_toArray, List.set_cons_zero, List.set_cons_succ, i64_w, i32_w]
        rfl
      refine one_ (i := 4) (N := some 56) #[true, true, true, true, true, false] rfl rfl (by kernel_rfl) (by decide) (fun K hK => ?_)
      refine Kd.N_append_rows_step k24 (w0 := w1.drew) w1.drew.heap.size (by rfl) (.tmp 53) (.tmp 55) 22 24 zT 40 (by rfl) Try.underlying22 info24 rfl (by decide) (by omega) (.slice An l.length cn) l [u] (some ⟨w1.drew.heap.size, 0, none⟩) 1 1 (fun _ => True) (fun k => k < w.heap.size ∨ k = w1.drew.heap.size) (by rfl) (by rfl) HNA.out (F_one ((HGA.out.block w1.drew.heap.size (blk_lt (blk_new w1.drew (.cells #[.int .i64 u.f0, .int .i64 u.f1, .slice A1 u.f2.length c1] 24 (0, 0)))) (by simp [Value.ownBlock])).trans (blk_new w1.drew (.cells #[.int .i64 u.f0, .int .i64 u.f1, .slice A1 u.f2.length c1] 24 (0, 0)))) HC1.out (Kd.F_below HFU.out HBA.out)) (fun k hk => ⟨trivial, fun e => by have h1 := Kd.N_base HNA.out k e.symm; have h2 := HSZ.out; rcases hk with hk | hk; omega; rcases HAA.out with h3 | ⟨b, h3, h4⟩; rw [← e] at h3; simp [Value.ownBlock] at h3; rw [← e] at h3; injection h3 with h3; have h5 : (w1.drew.alloc (.cells #[.int .i64 u.f0, .int .i64 u.f1, .slice A1 u.f2.length c1] 24 (0, 0))).heap.size = w1.drew.heap.size + 1 := Array.size_push _; have h6 : (w1.drew.alloc (.cells #[.int .i64 u.f0, .int .i64 u.f1, .slice A1 u.f2.length c1] 24 (0, 0))).heap.size ≤ b := h4; omega⟩) (fun k hk => trivial) HBA.out (below_size HBA.out) (by have := HLN.out; omega) ?_
      intro v2 wF hN hb hg hat
      obtain ⟨Af, cf, ev, hlf, hCf⟩ := Kd.N_reads hN
      rw [List.length_append, List.length_singleton] at ev hlf hCf
      subst ev
      have HLF := Aside0.mk hlf
      have HCF := Aside0.mk hCf
      have HBF := Aside0.mk hb
      clear hN hb hg hat hlf hCf
      obtain ⟨⟨p0, p1, p2⟩, _⟩ := cells3 (blk_below X1d.out HBF.out)
      refine hK.out _ _ ⟨p0, p1, p2⟩ (fun hHeld => ?_)
      clear hK K
      refine norm_ (a' := ?_) ?_ ?_
      rotate_left
      · show Act.put _ (some 56) _ = _
        simp only [Act.put, List.setIfInBounds_toArray, List.set_cons_zero, List.set_cons_succ, i64_w, i32_w]
        rfl
      refine pure_ (i := 5) (N := some 13) (v := ?_) (a' := ?_) #[true, true, true, true, true, true] rfl rfl (by kernel_rfl) (fun _ _ _ h => h) (Or.inl ⟨by rfl, ?_⟩) ?_ ?_
      rotate_left
      · intro w'
        go_simp
        with_reducible rfl
      rotate_left
      · simp only [Act.put, List.setIfInBounds_toArray, List.set_cons_zero, List.set_cons_succ, i64_w, i32_w]
        rfl
      refine done_ (by kernel_rfl) ?_
      go_wp2
      go_meet
      case rel => exact ⟨_, _, rfl, HLF, HCF, ⟨blk_below X1d.out HBF.out⟩, ⟨blk_below X2d.out HBF.out⟩, ⟨below_step HBd.out HBF.out⟩⟩
  case rest =>
    clear HBd X1d X2d HFL HFU HSZ k0 k1 k2 j0 j1 j2
    obtain ⟨An, cn, rfl, HLM, HCM, X1, X2, HB⟩ := hcut
    obtain ⟨⟨k0, k1, k2⟩, j0, j1, j2⟩ := cells3 X1.out
    obtain ⟨⟨m0, m1, m2⟩, i0, i1, i2⟩ := cells3 X2.out
    go_upto_region 9 with (first | (go_at_call 14; (with_reducible refine (parts_n _ A0 l.length c0 l rfl HC0.out (Kd.C_below HR0.out HB.out) (partsOf l) FP.out).mono ?_); rintro e w_ ⟨B, d, rfl, hd, hC, hb_⟩; clear k0 k1 k2 j0 j1 j2 m0 m1 m2 i0 i1 i2; have HPC := Aside0.mk hC; have HPD := Aside0.mk hd; clear hC hd; have HB := Aside0.mk (below_step HB.out hb_); have X1 := Aside0.mk (blk_below X1.out hb_); have X2 := Aside0.mk (blk_below X2.out hb_); have HCM := Aside0.mk (Kd.C_below HCM.out hb_); obtain ⟨⟨k0, k1, k2⟩, j0, j1, j2⟩ := cells3 X1.out; obtain ⟨⟨m0, m1, m2⟩, i0, i1, i2⟩ := cells3 X2.out; clear hb_))
    have HIMP := Aside0.mk himp
    clear himp
    rcases (show i < 0 ∨ (0 ≤ i ∧ ((partsOf l).length : Int) ≤ i) ∨ (0 ≤ i ∧ i < ((partsOf l).length : Int)) by omega) with d | ⟨d, d2⟩ | ⟨d, d2⟩
    · cases mk with
      | false =>
        go_wp2_with (first
          | (go_at_call 21; (with_reducible refine (know_Makes.calls A0 c0 l t.f0 t.f1 A2 c2 t.f2 false _ (Kd.C_below HR0.out HB.out) HC0.out (Kd.C_below HR2.out HB.out) HC2.out FM1.out).mono ?_); rintro e w_ ⟨rfl, hb_⟩; clear k0 k1 k2 j0 j1 j2 m0 m1 m2 i0 i1 i2; have HB := Aside0.mk (below_step HB.out hb_); have X1 := Aside0.mk (blk_below X1.out hb_); have X2 := Aside0.mk (blk_below X2.out hb_); have HCM := Aside0.mk (Kd.C_below HCM.out hb_); obtain ⟨⟨k0, k1, k2⟩, j0, j1, j2⟩ := cells3 X1.out; obtain ⟨⟨m0, m1, m2⟩, i0, i1, i2⟩ := cells3 X2.out; clear hb_))
        go_ret
        exact ⟨rfl, HB.out⟩
      | true =>
        obtain rfl := HIMP.out rfl
        go_wp2_with (first
          | (go_at_call 21; (with_reducible refine (know_Makes.calls A0 c0 l t.f0 t.f1 A2 c2 t.f2 true _ (Kd.C_below HR0.out HB.out) HC0.out (Kd.C_below HR2.out HB.out) HC2.out FM1.out).mono ?_); rintro e w_ ⟨rfl, hb_⟩; clear k0 k1 k2 j0 j1 j2 m0 m1 m2 i0 i1 i2; have HB := Aside0.mk (below_step HB.out hb_); have X1 := Aside0.mk (blk_below X1.out hb_); have X2 := Aside0.mk (blk_below X2.out hb_); have HCM := Aside0.mk (Kd.C_below HCM.out hb_); obtain ⟨⟨k0, k1, k2⟩, j0, j1, j2⟩ := cells3 X1.out; obtain ⟨⟨m0, m1, m2⟩, i0, i1, i2⟩ := cells3 X2.out; clear hb_)
          | (go_at_call 21; (with_reducible refine (makes_n _ An (l.length + 1) cn (l ++ [u]) (by simp) HLM.out HCM.out t.f0 t.f1 A2 t.f2.length c2 t.f2 rfl HC2.out (Kd.C_below HR2.out HB.out) true FM2.out).mono ?_); rintro e w_ ⟨rfl, hb_⟩; clear k0 k1 k2 j0 j1 j2 m0 m1 m2 i0 i1 i2; have HB := Aside0.mk (below_step HB.out hb_); have X1 := Aside0.mk (blk_below X1.out hb_); have X2 := Aside0.mk (blk_below X2.out hb_); have HCM := Aside0.mk (Kd.C_below HCM.out hb_); obtain ⟨⟨k0, k1, k2⟩, j0, j1, j2⟩ := cells3 X1.out; obtain ⟨⟨m0, m1, m2⟩, i0, i1, i2⟩ := cells3 X2.out; clear hb_))
        go_ret
        exact ⟨rfl, HB.out⟩
    · cases mk with
      | false =>
        go_wp2_with (first
          | (go_at_call 21; (with_reducible refine (know_Makes.calls A0 c0 l t.f0 t.f1 A2 c2 t.f2 false _ (Kd.C_below HR0.out HB.out) HC0.out (Kd.C_below HR2.out HB.out) HC2.out FM1.out).mono ?_); rintro e w_ ⟨rfl, hb_⟩; clear k0 k1 k2 j0 j1 j2 m0 m1 m2 i0 i1 i2; have HB := Aside0.mk (below_step HB.out hb_); have X1 := Aside0.mk (blk_below X1.out hb_); have X2 := Aside0.mk (blk_below X2.out hb_); have HCM := Aside0.mk (Kd.C_below HCM.out hb_); obtain ⟨⟨k0, k1, k2⟩, j0, j1, j2⟩ := cells3 X1.out; obtain ⟨⟨m0, m1, m2⟩, i0, i1, i2⟩ := cells3 X2.out; clear hb_))
        go_ret
        exact ⟨rfl, HB.out⟩
      | true =>
        obtain rfl := HIMP.out rfl
        go_wp2_with (first
          | (go_at_call 21; (with_reducible refine (know_Makes.calls A0 c0 l t.f0 t.f1 A2 c2 t.f2 true _ (Kd.C_below HR0.out HB.out) HC0.out (Kd.C_below HR2.out HB.out) HC2.out FM1.out).mono ?_); rintro e w_ ⟨rfl, hb_⟩; clear k0 k1 k2 j0 j1 j2 m0 m1 m2 i0 i1 i2; have HB := Aside0.mk (below_step HB.out hb_); have X1 := Aside0.mk (blk_below X1.out hb_); have X2 := Aside0.mk (blk_below X2.out hb_); have HCM := Aside0.mk (Kd.C_below HCM.out hb_); obtain ⟨⟨k0, k1, k2⟩, j0, j1, j2⟩ := cells3 X1.out; obtain ⟨⟨m0, m1, m2⟩, i0, i1, i2⟩ := cells3 X2.out; clear hb_)
          | (go_at_call 21; (with_reducible refine (makes_n _ An (l.length + 1) cn (l ++ [u]) (by simp) HLM.out HCM.out t.f0 t.f1 A2 t.f2.length c2 t.f2 rfl HC2.out (Kd.C_below HR2.out HB.out) true FM2.out).mono ?_); rintro e w_ ⟨rfl, hb_⟩; clear k0 k1 k2 j0 j1 j2 m0 m1 m2 i0 i1 i2; have HB := Aside0.mk (below_step HB.out hb_); have X1 := Aside0.mk (blk_below X1.out hb_); have X2 := Aside0.mk (blk_below X2.out hb_); have HCM := Aside0.mk (Kd.C_below HCM.out hb_); obtain ⟨⟨k0, k1, k2⟩, j0, j1, j2⟩ := cells3 X1.out; obtain ⟨⟨m0, m1, m2⟩, i0, i1, i2⟩ := cells3 X2.out; clear hb_))
        go_ret
        exact ⟨rfl, HB.out⟩
    · obtain ⟨n, rfl⟩ := Int.eq_ofNat_of_zero_le d
      have hlt : n < (partsOf l).length := by omega
      obtain ⟨ad, cs, eA, hcl, hFK, hcs, _⟩ := Kd.F_get (Kd.C_F k24_heap HPC.out) z24 (n : Int) (by omega) (by omega)
      obtain ⟨A5, c5, rfl, hl5, hF5⟩ := k24_openF hFK
      rw [Int.toNat_natCast] at hcs hl5 hF5
      have HYE := Aside0.mk (show (partsOf l).getD n z24 = rd_T24 (partsOf l) (n : Int) by unfold rd_T24; rw [Int.toNat_natCast])
      have HYM := Aside0.mk (HPM.out _ (rdT_mem (partsOf l) hlt))
      obtain ⟨y, hy⟩ : ∃ y, y = rd_T24 (partsOf l) (n : Int) := ⟨_, rfl⟩
      rw [HYE.out, ← hy] at hcs hl5 hF5
      rw [← hy] at HYM
      have FY := HYM
      clear hy HYE HYM
      have y0 := hcs 0 _ rfl
      have y1 : World.cell? w_ ⟨(ad.add (n * 3)).block, (ad.add (n * 3)).off + 1, none⟩ = some (.int .i64 y.f1) := by rw [← add_field _ _ 1 (by omega)]; exact hcs 1 _ rfl
      have y2 : World.cell? w_ ⟨(ad.add (n * 3)).block, (ad.add (n * 3)).off + 2, none⟩ = some (.slice A5 y.f2.length c5) := by rw [← add_field _ _ 2 (by omega)]; exact hcs 2 _ rfl
      replace y0 : World.cell? w_ (ad.add (n * 3)) = some (.int .i64 y.f0) := y0
      have HC5 := Aside0.mk (Kd.F_now hF5)
      have HL5 := Aside0.mk hl5
      subst eA
      clear hcs hcl hFK hl5 hF5
      go_upto_region 11 with (first | (go_at_call 21; (with_reducible refine (know_Makes.calls A0 c0 l y.f0 y.f1 A5 c5 y.f2 true _ (Kd.C_below HR0.out HB.out) HC0.out HC5.out HL5.out FY.out).mono ?_); rintro e w_ ⟨rfl, hb_⟩; clear k0 k1 k2 j0 j1 j2 m0 m1 m2 i0 i1 i2; have HB := Aside0.mk (below_step HB.out hb_); have X1 := Aside0.mk (blk_below X1.out hb_); have X2 := Aside0.mk (blk_below X2.out hb_); have HCM := Aside0.mk (Kd.C_below HCM.out hb_); obtain ⟨⟨k0, k1, k2⟩, j0, j1, j2⟩ := cells3 X1.out; obtain ⟨⟨m0, m1, m2⟩, i0, i1, i2⟩ := cells3 X2.out; clear hb_))
      cases mk with
      | false =>
        go_wp2_with (first
          | (go_at_call 21; (with_reducible refine (know_Makes.calls A0 c0 l t.f0 t.f1 A2 c2 t.f2 false _ (Kd.C_below HR0.out HB.out) HC0.out (Kd.C_below HR2.out HB.out) HC2.out FM1.out).mono ?_); rintro e w_ ⟨rfl, hb_⟩; clear k0 k1 k2 j0 j1 j2 m0 m1 m2 i0 i1 i2; have HB := Aside0.mk (below_step HB.out hb_); have X1 := Aside0.mk (blk_below X1.out hb_); have X2 := Aside0.mk (blk_below X2.out hb_); have HCM := Aside0.mk (Kd.C_below HCM.out hb_); obtain ⟨⟨k0, k1, k2⟩, j0, j1, j2⟩ := cells3 X1.out; obtain ⟨⟨m0, m1, m2⟩, i0, i1, i2⟩ := cells3 X2.out; clear hb_))
        go_ret
        exact ⟨rfl, HB.out⟩
      | true =>
        obtain rfl := HIMP.out rfl
        go_wp2_with (first
          | (go_at_call 21; (with_reducible refine (know_Makes.calls A0 c0 l t.f0 t.f1 A2 c2 t.f2 true _ (Kd.C_below HR0.out HB.out) HC0.out (Kd.C_below HR2.out HB.out) HC2.out FM1.out).mono ?_); rintro e w_ ⟨rfl, hb_⟩; clear k0 k1 k2 j0 j1 j2 m0 m1 m2 i0 i1 i2; have HB := Aside0.mk (below_step HB.out hb_); have X1 := Aside0.mk (blk_below X1.out hb_); have X2 := Aside0.mk (blk_below X2.out hb_); have HCM := Aside0.mk (Kd.C_below HCM.out hb_); obtain ⟨⟨k0, k1, k2⟩, j0, j1, j2⟩ := cells3 X1.out; obtain ⟨⟨m0, m1, m2⟩, i0, i1, i2⟩ := cells3 X2.out; clear hb_)
          | (go_at_call 21; (with_reducible refine (makes_n _ An (l.length + 1) cn (l ++ [u]) (by simp) HLM.out HCM.out t.f0 t.f1 A2 t.f2.length c2 t.f2 rfl HC2.out (Kd.C_below HR2.out HB.out) true FM2.out).mono ?_); rintro e w_ ⟨rfl, hb_⟩; clear k0 k1 k2 j0 j1 j2 m0 m1 m2 i0 i1 i2; have HB := Aside0.mk (below_step HB.out hb_); have X1 := Aside0.mk (blk_below X1.out hb_); have X2 := Aside0.mk (blk_below X2.out hb_); have HCM := Aside0.mk (Kd.C_below HCM.out hb_); obtain ⟨⟨k0, k1, k2⟩, j0, j1, j2⟩ := cells3 X1.out; obtain ⟨⟨m0, m1, m2⟩, i0, i1, i2⟩ := cells3 X2.out; clear hb_))
        go_ret
        exact ⟨rfl, HB.out⟩
theorem missL_nil (p : List S24) : ∀ l, missL p l = [] ↔ ∀ y ∈ l, missT p y = []
  | [] => by simp [missL]
  | x :: l => by rw [missL, List.append_eq_nil_iff, missL_nil p l]; simp
theorem missT_nil_iff (p : List S24) (x : S24) : missT p x = [] ↔ x.f0 = 0 ∨ x ∈ p ∨ (x.f0 ≠ 1 ∧ ∀ y ∈ x.f2, missT p y = []) := by
  rw [missT_eq, ← missL_nil, ← inL_iff]
  by_cases h0 : x.f0 = 0
  · simp [h0]
  · by_cases h1 : inL p x = true
    · simp [h0, h1]
    · rw [Bool.not_eq_true] at h1
      by_cases h2 : x.f0 = 1
      · simp [h1, h2]
      · simp [h0, h1, h2]
theorem missT_sub {p p' : List S24} (h : ∀ z ∈ p, missT p' z = []) : ∀ x, missT p x = [] → missT p' x = [] := tree_ind fun x ih hx => by
  rw [missT_nil_iff] at hx
  rcases hx with hx | hx | ⟨h1, h2⟩
  · exact (missT_nil_iff _ _).2 (Or.inl hx)
  · exact h x hx
  · exact (missT_nil_iff _ _).2 (Or.inr (Or.inr ⟨h1, fun y hy => ih y hy (h2 y hy)⟩))
theorem parts_closed {l : List S24} {z y : S24} (h : z ∈ partsOf l) (h2 : z.f0 = 2) (hy : y ∈ z.f2) : y ∈ partsOf l := by
  rw [mem_parts] at h ⊢
  obtain ⟨t, ht, hz⟩ := (mem_reachL _ _).1 h
  exact (mem_reachL _ _).2 ⟨t, ht, reach_trans t z y hz (reach_pair h2 hy (reach_self y))⟩
theorem made_reach (l : List S24) : ∀ u, missT (partsOf l) u = [] → ∀ z ∈ reachT u, missT (partsOf l) z = [] := tree_ind fun u ih hu z hz => by
  rw [reachT_eq] at hz
  rcases List.mem_cons.1 hz with rfl | hz
  · exact hu
  · by_cases h2 : u.f0 = 2
    · rw [if_pos h2] at hz
      obtain ⟨t, ht, hz⟩ := (mem_reachL _ _).1 hz
      refine ih t ht ?_ z hz
      rcases (missT_nil_iff _ _).1 hu with h | h | ⟨_, h⟩
      · omega
      · exact (missT_nil_iff _ _).2 (Or.inr (Or.inl (parts_closed h h2 ht)))
      · exact h t ht
    · rw [if_neg h2] at hz; simp at hz
theorem made_in {p : List S24} {z : S24} (h : z ∈ p) : missT p z = [] := (missT_nil_iff _ _).2 (Or.inr (Or.inl h))
theorem makesB_iff (l : List S24) (t : S24) : makesB l t = true ↔ mayL l = true ∧ mayT t = true ∧ missT (partsOf l) t = [] := by
  unfold makesB
  rw [Bool.and_eq_true, Bool.and_eq_true, decide_eq_true_eq]
theorem mem_parts_app (l k : List S24) (z : S24) : z ∈ partsOf (l ++ k) ↔ z ∈ partsOf l ∨ z ∈ partsOf k := by
  rw [mem_parts, mem_parts, mem_parts, reachL_append, List.mem_append]
theorem mem_parts_one (u z : S24) : z ∈ partsOf [u] ↔ z ∈ reachT u := by
  rw [mem_parts, reachL, reachL, List.append_nil]
theorem lsize_snoc (l : List S24) (u : S24) : lsize (l ++ [u]) = lsize l + tsize u := by rw [lsize_append, lsize, lsize]; omega
theorem mayL_app {l k : List S24} (h : mayL l = true) (hs : ∀ x ∈ l, tsize x ≤ 1000000) (hk : ∀ x ∈ k, mayT x = true) (hlen : l.length + k.length ≤ 40) : mayL (l ++ k) = true := by
  have h1 := ((mayL_iff l hs).1 h).2
  refine (mayL_iff _ (fun x hx => ?_)).2 ⟨by rw [List.length_append]; exact hlen, fun x hx => ?_⟩
  · rcases List.mem_append.1 hx with hx | hx
    · exact hs x hx
    · have := ((mayT_iff x).1 (hk x hx)).2.1; omega
  · rcases List.mem_append.1 hx with hx | hx
    · exact h1 x hx
    · exact hk x hx
theorem makes_more {l : List S24} {u t : S24} (hm : mayL (l ++ [u]) = true) (h : makesB l t = true) : makesB (l ++ [u]) t = true := by
  obtain ⟨h1, h2, h3⟩ := (makesB_iff _ _).1 h
  exact (makesB_iff _ _).2 ⟨hm, h2, missT_sub (fun z hz => made_in ((mem_parts_app _ _ _).2 (Or.inl hz))) t h3⟩
theorem pelicanlaw06_KnowMore_in (l : List S24) (u t : S24) (A0 A1 A2 : Option Addr) (c0 c1 c2 : Nat) (i : Int) (w : World) (hr0 : Kd.C k24 w A0 l.length l) (hc0 : l.length ≤ c0) (hr1 : Kd.C k24 w A1 u.f2.length u.f2) (hc1 : u.f2.length ≤ c1) (hr2 : Kd.C k24 w A2 t.f2.length t.f2) (hc2 : t.f2.length ≤ c2) :
    Calls Try.prog 4 #[.slice A0 l.length c0, .agg #[.int .i64 u.f0, .int .i64 u.f1, .slice A1 u.f2.length c1], .agg #[.int .i64 t.f0, .int .i64 t.f1, .slice A2 t.f2.length c2], .int .i64 i] w fun e w' => e = .returned (.bool true) ∧ Below w.heap.size w w' := by
  obtain ⟨q1, hq1⟩ := Ev.rounds (lightAll_ev l)
  obtain ⟨q2, hq2⟩ := Ev.rounds (light_ev u)
  obtain ⟨q3, hq3⟩ := Ev.rounds (light_ev t)
  obtain ⟨b4, h4⟩ : ∃ b, know_May.f l = some b := ⟨_, rfl⟩
  obtain ⟨b5, h5⟩ : ∃ b, term_May.f u.f0 u.f1 u.f2 = some b := ⟨_, rfl⟩
  cases e1 : lightL l with
  | false => rw [e1] at hq1; exact more_o1 l u t A0 A1 A2 c0 c1 c2 i w hr0 hc0 hr1 hc1 hr2 hc2 q1 q2 q3 _ _ b4 b5 hq1 hq2 hq3 h4 h5
  | true =>
    rw [e1] at hq1
    by_cases e2 : tsize u ≤ 150 ∧ tdep u ≤ 20
    · rw [decide_eq_true e2] at hq2
      by_cases e3 : tsize t ≤ 150 ∧ tdep t ≤ 20
      · rw [decide_eq_true e3] at hq3
        by_cases hl : 20 < l.length
        · exact more_len l u t A0 A1 A2 c0 c1 c2 i w hr0 hc0 hr1 hc1 hr2 hc2 q1 q2 q3 b4 b5 hq1 hq2 hq3 h4 h5 (by omega)
        · cases b4 with
          | false => exact more_o4 l u t A0 A1 A2 c0 c1 c2 i w hr0 hc0 hr1 hc1 hr2 hc2 q1 q2 q3 b5 hq1 hq2 hq3 h4 h5 (by omega)
          | true =>
            cases b5 with
            | false => exact more_o5 l u t A0 A1 A2 c0 c1 c2 i w hr0 hc0 hr1 hc1 hr2 hc2 q1 q2 q3 hq1 hq2 hq3 h4 h5 (by omega)
            | true =>
              obtain ⟨hz, hs⟩ := light_size e1
              have hz6 : lsize l ≤ 1000000 := by omega
              have hs6 : ∀ z ∈ l, tsize z ≤ 1000000 := fun z hz => by have := hs z hz; omega
              have hm : mayL l = true := Option.some.inj h4
              have hu : mayT u = true := by rw [may_f u (by omega)] at h5; exact Option.some.inj h5
              have hm2 : mayL (l ++ [u]) = true := mayL_app hm hs6 (fun x hx => by rw [List.mem_singleton] at hx; subst hx; exact hu) (by simp; omega)
              refine more_main l u t A0 A1 A2 c0 c1 c2 i w hr0 hc0 hr1 hc1 hr2 hc2 q1 q2 q3 hq1 hq2 hq3 h4 h5 (by omega) (by rw [parts_f l hz6, if_pos hm]) (makesB l t) (makesB (l ++ [u]) t) (makes_f l t hz6 (by omega)) (makes_f (l ++ [u]) t (by rw [lsize_snoc]; omega) (by omega)) (makes_more hm2) (fun y hy => ?_)
              have hy6 := parts_size hs y hy
              rw [makes_f l y hz6 (by omega)]
              congr 1
              refine (makesB_iff _ _).2 ⟨hm, ?_, made_in hy⟩
              obtain ⟨x, hx, hr⟩ := (mem_reachL _ _).1 ((mem_parts _ _).1 hy)
              exact may_reach x y (((mayL_iff l hs6).1 hm).2 x hx) hr
      · rw [decide_eq_false e3] at hq3
        exact more_o3 l u t A0 A1 A2 c0 c1 c2 i w hr0 hc0 hr1 hc1 hr2 hc2 q1 q2 q3 b4 b5 hq1 hq2 hq3 h4 h5
    · rw [decide_eq_false e2] at hq2
      exact more_o2 l u t A0 A1 A2 c0 c1 c2 i w hr0 hc0 hr1 hc1 hr2 hc2 q1 q2 q3 _ b4 b5 hq1 hq2 hq3 h4 h5
def pelicanlaw06_KnowMore.f (l0 : List (S24)) (a1_0 : Int) (a1_1 : Int) (l1_2 : List (S24)) (a2_0 : Int) (a2_1 : Int) (l2_2 : List (S24)) (a3 : Int) : Option (Bool) := some true
theorem pelicanlaw06_KnowMore.calls (A0 : Option Addr) (c0 : Nat) (l0 : List (S24)) (a1_0 : Int) (a1_1 : Int) (A1_2 : Option Addr) (c1_2 : Nat) (l1_2 : List (S24)) (a2_0 : Int) (a2_1 : Int) (A2_2 : Option Addr) (c2_2 : Nat) (l2_2 : List (S24)) (a3 : Int) (r : Bool) (w : World) (hr0 : Kd.C k24 w A0 l0.length l0) (hc0 : l0.length ≤ c0) (hr1_2 : Kd.C k24 w A1_2 l1_2.length l1_2) (hc1_2 : l1_2.length ≤ c1_2) (hr2_2 : Kd.C k24 w A2_2 l2_2.length l2_2) (hc2_2 : l2_2.length ≤ c2_2) (h : pelicanlaw06_KnowMore.f l0 a1_0 a1_1 l1_2 a2_0 a2_1 l2_2 a3 = some r) (hr_0 : r = true) :
    Calls Try.prog 4 #[.slice A0 l0.length c0, .agg #[.int .i64 a1_0, .int .i64 a1_1, .slice A1_2 l1_2.length c1_2], .agg #[.int .i64 a2_0, .int .i64 a2_1, .slice A2_2 l2_2.length c2_2], .int .i64 a3] w fun e w' => e = .returned (.bool r) ∧ Below w.heap.size w w' := by
  subst hr_0
  exact pelicanlaw06_KnowMore_in l0 ⟨a1_0, a1_1, l1_2⟩ ⟨a2_0, a2_1, l2_2⟩ A0 A1_2 A2_2 c0 c1_2 c2_2 a3 w hr0 hc0 hr1_2 hc1_2 hr2_2 hc2_2
end Go.Proofs.Ytfonjmggalkbjaa.P

