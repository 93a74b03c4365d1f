/- By hand: the law StoreTells' walk. -/
import Derived.Test.YtlldfihhdbbicaaHRefSame
import Derived.Test.YtlldfihhdbbicaaPx3
namespace Go.Proofs.Ytlldfihhdbbicaa.P
open Go.RowKit Go.Lib Go.Proofs.YtlldfihhdbbicaaW.PrintWords Go.Proofs.YtlldfihhdbbicaaW.PrintLast Go.Proofs.YtlldfihhdbbicaaW.PrintMore
set_option linter.unusedVariables false
set_option linter.unusedSimpArgs false
theorem aw_true : pelicanlaw09_awake.f = some true := by kernel_rfl
/-- A box that holds a store that can be read. -/
def Bx (W : World) (b : Nat) (a : Int) (l : List Int) (n : Int) : Prop := ∃ (A : Option Addr) (c : Nat), W.heap[b]? = some (.cells #[.int .i64 a, .slice A l.length c, .int .i64 n] 24 (0, 0)) ∧ l.length ≤ c ∧ Kd.C (Kd.int .u8) W A l.length l
theorem Bx.step {W W' : World} {b : Nat} {a n : Int} {l : List Int} (h : Bx W b a l n) (hb : Below W.heap.size W W') : Bx W' b a l n := by
  obtain ⟨A, c, h1, h2, h3⟩ := h
  exact ⟨A, c, blk_below h1 hb, h2, Kd.C_below h3 hb⟩
theorem Bx.new (W : World) (a n : Int) (l : List Int) {A : Option Addr} {c : Nat} (h2 : l.length ≤ c) (h3 : Kd.C (Kd.int .u8) W A l.length l) :
    Below W.heap.size W (W.alloc (.cells #[.int .i64 a, .slice A l.length c, .int .i64 n] 24)) ∧ Bx (W.alloc (.cells #[.int .i64 a, .slice A l.length c, .int .i64 n] 24)) W.heap.size a l n := by
  have hb := below_alloc (Below.refl W.heap.size W) (.cells #[.int .i64 a, .slice A l.length c, .int .i64 n] 24)
  exact ⟨hb, A, c, blk_new W _, h2, Kd.C_below h3 hb⟩
set_option maxRecDepth 100000 in
set_option maxHeartbeats 4000000 in
theorem st_o1 (a n a2 n2 x room : Int) (A A2 B : Option Addr) (c c2 d : Nat) (l l2 k : List Int) (w : World) (hr : Kd.C (Kd.int .u8) w A l.length l) (hc : l.length ≤ c) (hr2 : Kd.C (Kd.int .u8) w A2 l2.length l2) (hc2 : l2.length ≤ c2) (hk : Kd.C (Kd.int .u8) w B k.length k) (hd : k.length ≤ d) (d1 : (5000 : Int) < (l.length : Int)) :
    Calls Try.prog 8 #[.agg #[.int .i64 a, .slice A l.length c, .int .i64 n], .agg #[.int .i64 a2, .slice A2 l2.length c2, .int .i64 n2], .slice B k.length d, .int .i64 x, .int .i64 room] w fun e w' => e = .returned (.bool true) ∧ Below w.heap.size w w' := by
  have HR := Aside0.mk hr
  have HC := Aside0.mk hc
  have HR2 := Aside0.mk hr2
  have HC2 := Aside0.mk hc2
  have HK := Aside0.mk hk
  have HD := Aside0.mk hd
  clear hr hc hr2 hc2 hk hd
  go_enter Try.func8, Try.ntmps8
  go_wp2_with (first
    | (go_at_call 9; (with_reducible refine (pelicanlaw09_awake.calls true _ aw_true).mono ?_); rintro e w_ ⟨rfl, hb_⟩; have X1 := Aside0.mk (two_blocks hb_).1; have X2 := Aside0.mk (two_blocks hb_).2; have HB := Aside0.mk (below_step (below_alloc (below_alloc (Below.refl w.heap.size w) (.cells #[.int .i64 a, .slice A l.length c, .int .i64 n] 24)) (.cells #[.int .i64 a2, .slice A2 l2.length c2, .int .i64 n2] 24)) hb_); clear hb_; obtain ⟨⟨k0, k1, k2⟩, j0, j1, j2⟩ := cells3 X1.out; obtain ⟨⟨m0, m1, m2⟩, i0, i1, i2⟩ := cells3 X2.out)
    | (go_at_call 10; (with_reducible refine (pelicanlaw09_Few.calls a A c l n _ _ (Kd.C_below HR.out HB.out) HC.out rfl).mono ?_); rintro e w_ ⟨rfl, hb_⟩; clear k0 k1 k2 j0 j1 j2 m0 m1 m2 i0 i1 i2; have HB := Aside0.mk (below_step HB.out hb_); have X1 := Aside0.mk (blk_below X1.out hb_); have X2 := Aside0.mk (blk_below X2.out hb_); obtain ⟨⟨k0, k1, k2⟩, j0, j1, j2⟩ := cells3 X1.out; obtain ⟨⟨m0, m1, m2⟩, i0, i1, i2⟩ := cells3 X2.out; clear hb_)
    | (go_at_call 10; (with_reducible refine (pelicanlaw09_Few.calls a2 A2 c2 l2 n2 _ _ (Kd.C_below HR2.out HB.out) HC2.out rfl).mono ?_); rintro e w_ ⟨rfl, hb_⟩; clear k0 k1 k2 j0 j1 j2 m0 m1 m2 i0 i1 i2; have HB := Aside0.mk (below_step HB.out hb_); have X1 := Aside0.mk (blk_below X1.out hb_); have X2 := Aside0.mk (blk_below X2.out hb_); obtain ⟨⟨k0, k1, k2⟩, j0, j1, j2⟩ := cells3 X1.out; obtain ⟨⟨m0, m1, m2⟩, i0, i1, i2⟩ := cells3 X2.out; clear hb_))
  go_ret
  exact ⟨rfl, HB.out⟩
set_option maxRecDepth 100000 in
set_option maxHeartbeats 4000000 in
theorem st_o2 (a n a2 n2 x room : Int) (A A2 B : Option Addr) (c c2 d : Nat) (l l2 k : List Int) (w : World) (hr : Kd.C (Kd.int .u8) w A l.length l) (hc : l.length ≤ c) (hr2 : Kd.C (Kd.int .u8) w A2 l2.length l2) (hc2 : l2.length ≤ c2) (hk : Kd.C (Kd.int .u8) w B k.length k) (hd : k.length ≤ d) (d1 : (l.length : Int) ≤ 5000) (d2 : (5000 : Int) < (l2.length : Int)) :
    Calls Try.prog 8 #[.agg #[.int .i64 a, .slice A l.length c, .int .i64 n], .agg #[.int .i64 a2, .slice A2 l2.length c2, .int .i64 n2], .slice B k.length d, .int .i64 x, .int .i64 room] w fun e w' => e = .returned (.bool true) ∧ Below w.heap.size w w' := by
  have HR := Aside0.mk hr
  have HC := Aside0.mk hc
  have HR2 := Aside0.mk hr2
  have HC2 := Aside0.mk hc2
  have HK := Aside0.mk hk
  have HD := Aside0.mk hd
  clear hr hc hr2 hc2 hk hd
  go_enter Try.func8, Try.ntmps8
  go_wp2_with (first
    | (go_at_call 9; (with_reducible refine (pelicanlaw09_awake.calls true _ aw_true).mono ?_); rintro e w_ ⟨rfl, hb_⟩; have X1 := Aside0.mk (two_blocks hb_).1; have X2 := Aside0.mk (two_blocks hb_).2; have HB := Aside0.mk (below_step (below_alloc (below_alloc (Below.refl w.heap.size w) (.cells #[.int .i64 a, .slice A l.length c, .int .i64 n] 24)) (.cells #[.int .i64 a2, .slice A2 l2.length c2, .int .i64 n2] 24)) hb_); clear hb_; obtain ⟨⟨k0, k1, k2⟩, j0, j1, j2⟩ := cells3 X1.out; obtain ⟨⟨m0, m1, m2⟩, i0, i1, i2⟩ := cells3 X2.out)
    | (go_at_call 10; (with_reducible refine (pelicanlaw09_Few.calls a A c l n _ _ (Kd.C_below HR.out HB.out) HC.out rfl).mono ?_); rintro e w_ ⟨rfl, hb_⟩; clear k0 k1 k2 j0 j1 j2 m0 m1 m2 i0 i1 i2; have HB := Aside0.mk (below_step HB.out hb_); have X1 := Aside0.mk (blk_below X1.out hb_); have X2 := Aside0.mk (blk_below X2.out hb_); obtain ⟨⟨k0, k1, k2⟩, j0, j1, j2⟩ := cells3 X1.out; obtain ⟨⟨m0, m1, m2⟩, i0, i1, i2⟩ := cells3 X2.out; clear hb_)
    | (go_at_call 10; (with_reducible refine (pelicanlaw09_Few.calls a2 A2 c2 l2 n2 _ _ (Kd.C_below HR2.out HB.out) HC2.out rfl).mono ?_); rintro e w_ ⟨rfl, hb_⟩; clear k0 k1 k2 j0 j1 j2 m0 m1 m2 i0 i1 i2; have HB := Aside0.mk (below_step HB.out hb_); have X1 := Aside0.mk (blk_below X1.out hb_); have X2 := Aside0.mk (blk_below X2.out hb_); obtain ⟨⟨k0, k1, k2⟩, j0, j1, j2⟩ := cells3 X1.out; obtain ⟨⟨m0, m1, m2⟩, i0, i1, i2⟩ := cells3 X2.out; clear hb_))
  go_ret
  exact ⟨rfl, HB.out⟩
set_option maxRecDepth 100000 in
set_option maxHeartbeats 4000000 in
theorem st_o3 (a n a2 n2 x room : Int) (A A2 B : Option Addr) (c c2 d : Nat) (l l2 k : List Int) (w : World) (hr : Kd.C (Kd.int .u8) w A l.length l) (hc : l.length ≤ c) (hr2 : Kd.C (Kd.int .u8) w A2 l2.length l2) (hc2 : l2.length ≤ c2) (hk : Kd.C (Kd.int .u8) w B k.length k) (hd : k.length ≤ d) (d1 : (l.length : Int) ≤ 5000) (d2 : (l2.length : Int) ≤ 5000) (d3 : (5000 : Int) < (k.length : Int)) :
    Calls Try.prog 8 #[.agg #[.int .i64 a, .slice A l.length c, .int .i64 n], .agg #[.int .i64 a2, .slice A2 l2.length c2, .int .i64 n2], .slice B k.length d, .int .i64 x, .int .i64 room] w fun e w' => e = .returned (.bool true) ∧ Below w.heap.size w w' := by
  have HR := Aside0.mk hr
  have HC := Aside0.mk hc
  have HR2 := Aside0.mk hr2
  have HC2 := Aside0.mk hc2
  have HK := Aside0.mk hk
  have HD := Aside0.mk hd
  clear hr hc hr2 hc2 hk hd
  go_enter Try.func8, Try.ntmps8
  go_wp2_with (first
    | (go_at_call 9; (with_reducible refine (pelicanlaw09_awake.calls true _ aw_true).mono ?_); rintro e w_ ⟨rfl, hb_⟩; have X1 := Aside0.mk (two_blocks hb_).1; have X2 := Aside0.mk (two_blocks hb_).2; have HB := Aside0.mk (below_step (below_alloc (below_alloc (Below.refl w.heap.size w) (.cells #[.int .i64 a, .slice A l.length c, .int .i64 n] 24)) (.cells #[.int .i64 a2, .slice A2 l2.length c2, .int .i64 n2] 24)) hb_); clear hb_; obtain ⟨⟨k0, k1, k2⟩, j0, j1, j2⟩ := cells3 X1.out; obtain ⟨⟨m0, m1, m2⟩, i0, i1, i2⟩ := cells3 X2.out)
    | (go_at_call 10; (with_reducible refine (pelicanlaw09_Few.calls a A c l n _ _ (Kd.C_below HR.out HB.out) HC.out rfl).mono ?_); rintro e w_ ⟨rfl, hb_⟩; clear k0 k1 k2 j0 j1 j2 m0 m1 m2 i0 i1 i2; have HB := Aside0.mk (below_step HB.out hb_); have X1 := Aside0.mk (blk_below X1.out hb_); have X2 := Aside0.mk (blk_below X2.out hb_); obtain ⟨⟨k0, k1, k2⟩, j0, j1, j2⟩ := cells3 X1.out; obtain ⟨⟨m0, m1, m2⟩, i0, i1, i2⟩ := cells3 X2.out; clear hb_)
    | (go_at_call 10; (with_reducible refine (pelicanlaw09_Few.calls a2 A2 c2 l2 n2 _ _ (Kd.C_below HR2.out HB.out) HC2.out rfl).mono ?_); rintro e w_ ⟨rfl, hb_⟩; clear k0 k1 k2 j0 j1 j2 m0 m1 m2 i0 i1 i2; have HB := Aside0.mk (below_step HB.out hb_); have X1 := Aside0.mk (blk_below X1.out hb_); have X2 := Aside0.mk (blk_below X2.out hb_); obtain ⟨⟨k0, k1, k2⟩, j0, j1, j2⟩ := cells3 X1.out; obtain ⟨⟨m0, m1, m2⟩, i0, i1, i2⟩ := cells3 X2.out; clear hb_))
  go_ret
  exact ⟨rfl, HB.out⟩
end Go.Proofs.Ytlldfihhdbbicaa.P
