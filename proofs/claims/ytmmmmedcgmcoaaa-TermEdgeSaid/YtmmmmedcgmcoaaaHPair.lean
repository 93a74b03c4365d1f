/- By hand: the law TermPair's walk. -/
import Derived.Test.YtmmmmedcgmcoaaaHAwake
import Derived.Test.YtmmmmedcgmcoaaaHTermP
import Derived.Test.YtmmmmedcgmcoaaaHRow
import Derived.IntWalk
namespace Go.Proofs.Ytmmmmedcgmcoaaa.P
open Go.RowKit Go.Proofs.YtmmmmedcgmcoaaaW.PrintWords Go.Proofs.YtmmmmedcgmcoaaaW.PrintLast Go.Proofs.YtmmmmedcgmcoaaaW.PrintMore
attribute [local go_sem] max2_int max_two
set_option linter.unusedVariables false
set_option linter.unusedSimpArgs false
theorem C_two {W : World} {g : Nat} {a b : S24} {a0 a1 a2 b0 b1 b2 : Value} (hg : W.heap[g]? = some (.cells #[a0, a1, a2, b0, b1, b2] 24 (0, 0))) (ha : k24.K W a [a0, a1, a2]) (hb : k24.K W b [b0, b1, b2]) :
    Kd.C k24 W (some ⟨g, 0, none⟩) 2 [a, b] := by
  refine ⟨rfl, by omega, fun _ => ⟨_, rfl, fun j p hj => ?_⟩⟩
  have hc : ∀ i, W.cell? ((⟨g, 0, none⟩ : Addr).add i) = #[a0, a1, a2, b0, b1, b2][i]? := fun i => by
    rw [add_plain]
    exact blk_cell hg i
  rcases j with _ | _ | j
  · simp only [List.getElem?_cons_zero, Option.some.injEq] at hj
    subst hj
    refine ⟨_, rfl, ha, fun i u hu => ?_⟩
    rw [hc, Nat.zero_mul, Nat.zero_add]
    rcases i with _ | _ | _ | i
    all_goals first | (simp at hu; done) | exact hu
  · simp only [List.getElem?_cons_succ, List.getElem?_cons_zero, Option.some.injEq] at hj
    subst hj
    refine ⟨_, rfl, hb, fun i u hu => ?_⟩
    rw [hc]
    rcases i with _ | _ | _ | i
    all_goals first | (simp at hu; done) | exact hu
  · simp at hj
theorem two_allocs' (w : World) (o1 o2 : Obj) : ((w.alloc o1).alloc o2).heap[w.heap.size]? = some o1 ∧ ((w.alloc o1).alloc o2).heap[w.heap.size + 1]? = some o2 := by
  have s1 : (w.alloc o1).heap.size = w.heap.size + 1 := Array.size_push _
  have b2 := World.alloc_heap_new (w.alloc o1) o2
  rw [s1] at b2
  exact ⟨blk_alloc (World.alloc_heap_new w o1) o2, b2⟩
theorem four_allocs (w : World) (o1 o2 o3 o4 : Obj) : ((((w.alloc o1).alloc o2).alloc o3).alloc o4).heap[w.heap.size]? = some o1 ∧ ((((w.alloc o1).alloc o2).alloc o3).alloc o4).heap[w.heap.size + 1]? = some o2 ∧ ((((w.alloc o1).alloc o2).alloc o3).alloc o4).heap[w.heap.size + 2]? = some o3 ∧ ((((w.alloc o1).alloc o2).alloc o3).alloc o4).heap[w.heap.size + 3]? = some o4 := by
  obtain ⟨h1, h2⟩ := two_allocs' w o1 o2
  obtain ⟨h3, h4⟩ := two_allocs' ((w.alloc o1).alloc o2) o3 o4
  have s1 : ((w.alloc o1).alloc o2).heap.size = w.heap.size + 2 := by rw [show ∀ (w : World) (o : Obj), (w.alloc o).heap.size = w.heap.size + 1 from fun w o => Array.size_push _, show ∀ (w : World) (o : Obj), (w.alloc o).heap.size = w.heap.size + 1 from fun w o => Array.size_push _]
  rw [s1] at h3 h4
  exact ⟨blk_alloc (blk_alloc h1 o3) o4, blk_alloc (blk_alloc h2 o3) o4, h3, h4⟩
section
variable (k : Int) (x y : S24) (Ad : Option Addr) (w : World)
theorem may2 (r : Bool) (h : term_May.f k 0 [x, y] = some r) (hC : Kd.C k24 w Ad 2 [x, y]) :
    Calls Try.prog 23 #[.agg #[.int .i64 k, .int .i64 0, .slice Ad 2 2]] w fun e w' => e = .returned (.bool r) ∧ Below w.heap.size w w' := term_May.calls k 0 Ad 2 [x, y] r w hC (Nat.le_refl _) h
theorem size2 (r : Int) (h : term_Size.f k 0 [x, y] = some r) (hC : Kd.C k24 w Ad 2 [x, y]) :
    Calls Try.prog 19 #[.agg #[.int .i64 k, .int .i64 0, .slice Ad 2 2]] w fun e w' => e = .returned (.int .i64 r) ∧ Below w.heap.size w w' := term_Size.calls k 0 Ad 2 [x, y] r w hC (Nat.le_refl _) h
theorem depth2 (r : Int) (h : term_Depth.f k 0 [x, y] = some r) (hC : Kd.C k24 w Ad 2 [x, y]) :
    Calls Try.prog 21 #[.agg #[.int .i64 k, .int .i64 0, .slice Ad 2 2]] w fun e w' => e = .returned (.int .i64 r) ∧ Below w.heap.size w w' := term_Depth.calls k 0 Ad 2 [x, y] r w hC (Nat.le_refl _) h
theorem same2 (k' : Int) (Ad' : Option Addr) (r : Bool) (h : term_Same.f k 0 [x, y] k' 0 [x, y] = some r) (hC : Kd.C k24 w Ad 2 [x, y]) (hC' : Kd.C k24 w Ad' 2 [x, y]) :
    Calls Try.prog 24 #[.agg #[.int .i64 k, .int .i64 0, .slice Ad 2 2], .agg #[.int .i64 k', .int .i64 0, .slice Ad' 2 2]] w fun e w' => e = .returned (.bool r) ∧ Below w.heap.size w w' := term_Same.calls k 0 Ad 2 [x, y] k' 0 Ad' 2 [x, y] r w hC (Nat.le_refl _) hC' (Nat.le_refl _) h
end
set_option maxRecDepth 100000 in
set_option maxHeartbeats 4000000 in
theorem pair_no1 (x y : S24) (A B : Option Addr) (c d : Nat) (w : World) (hx : Kd.C k24 w A x.f2.length x.f2) (hcx : x.f2.length ≤ c) (hy : Kd.C k24 w B y.f2.length y.f2) (hcy : y.f2.length ≤ d) (q1 q2 : Nat) (r1 r2 : Int) (h1 : pelicanref05_Nodes.f q1 x.f0 x.f1 x.f2 60 15 = some r1) (h2 : pelicanref05_Nodes.f q2 y.f0 y.f1 y.f2 60 15 = some r2) (d1 : 60 < r1) :
    Calls Try.prog 6 #[.agg #[.int .i64 x.f0, .int .i64 x.f1, .slice A x.f2.length c], .agg #[.int .i64 y.f0, .int .i64 y.f1, .slice B y.f2.length d]] w fun e w' => e = .returned (.bool true) ∧ Below w.heap.size w w' := by
  have HX := Aside0.mk hx
  have HY := Aside0.mk hy
  have HCX := Aside0.mk hcx
  have HCY := Aside0.mk hcy
  clear hx hy hcx hcy
  have F1 := Aside0.mk h1
  have F2 := Aside0.mk h2
  clear h1 h2
  go_enter Try.func6, Try.ntmps6
  go_wp2_with (first
    | (go_at_call 9; (with_reducible refine (pelicanlaw05_awake.calls true _ rfl).mono ?_); rintro e w_ ⟨rfl, hb_⟩; obtain ⟨t1_, t2_⟩ := two_allocs' w (.cells #[.int .i64 x.f0, .int .i64 x.f1, .slice A x.f2.length c] 24 (0, 0)) (.cells #[.int .i64 y.f0, .int .i64 y.f1, .slice B y.f2.length d] 24 (0, 0)); have X1 := Aside0.mk (blk_below t1_ hb_); have X2 := Aside0.mk (blk_below t2_ hb_); have HB := Aside0.mk (below_step (below_alloc (below_alloc (Below.refl w.heap.size w) (.cells #[.int .i64 x.f0, .int .i64 x.f1, .slice A x.f2.length c] 24 (0, 0))) (.cells #[.int .i64 y.f0, .int .i64 y.f1, .slice B y.f2.length d] 24 (0, 0))) hb_); clear t1_ t2_ hb_; obtain ⟨⟨k0, k1, k2⟩, j0, j1, j2⟩ := cells3 X1.out; obtain ⟨⟨k3, k4, k5⟩, j3, j4, j5⟩ := cells3 X2.out)
    | (go_at_call 25; (with_reducible refine (pelicanref05_Nodes.calls q1 x.f0 x.f1 A c x.f2 60 15 r1 _ (Kd.C_below HX.out HB.out) HCX.out F1.out).mono ?_); rintro e w_ ⟨rfl, hb_⟩; clear k0 k1 k2 j0 j1 j2 k3 k4 k5 j3 j4 j5; have HB := Aside0.mk (below_step HB.out hb_); have X1 := Aside0.mk (blk_below X1.out hb_); have X2 := Aside0.mk (blk_below X2.out hb_); obtain ⟨⟨k0, k1, k2⟩, j0, j1, j2⟩ := cells3 X1.out; obtain ⟨⟨k3, k4, k5⟩, j3, j4, j5⟩ := cells3 X2.out; clear hb_)
    | (go_at_call 25; (with_reducible refine (pelicanref05_Nodes.calls q2 y.f0 y.f1 B d y.f2 60 15 r2 _ (Kd.C_below HY.out HB.out) HCY.out F2.out).mono ?_); rintro e w_ ⟨rfl, hb_⟩; clear k0 k1 k2 j0 j1 j2 k3 k4 k5 j3 j4 j5; have HB := Aside0.mk (below_step HB.out hb_); have X1 := Aside0.mk (blk_below X1.out hb_); have X2 := Aside0.mk (blk_below X2.out hb_); obtain ⟨⟨k0, k1, k2⟩, j0, j1, j2⟩ := cells3 X1.out; obtain ⟨⟨k3, k4, k5⟩, j3, j4, j5⟩ := cells3 X2.out; clear hb_))
  go_ret
  exact ⟨rfl, HB.out⟩
set_option maxRecDepth 100000 in
set_option maxHeartbeats 4000000 in
theorem pair_no2 (x y : S24) (A B : Option Addr) (c d : Nat) (w : World) (hx : Kd.C k24 w A x.f2.length x.f2) (hcx : x.f2.length ≤ c) (hy : Kd.C k24 w B y.f2.length y.f2) (hcy : y.f2.length ≤ d) (q1 q2 : Nat) (r1 r2 : Int) (h1 : pelicanref05_Nodes.f q1 x.f0 x.f1 x.f2 60 15 = some r1) (h2 : pelicanref05_Nodes.f q2 y.f0 y.f1 y.f2 60 15 = some r2) (d1 : r1 ≤ 60) (d2 : 60 < r2) :
    Calls Try.prog 6 #[.agg #[.int .i64 x.f0, .int .i64 x.f1, .slice A x.f2.length c], .agg #[.int .i64 y.f0, .int .i64 y.f1, .slice B y.f2.length d]] w fun e w' => e = .returned (.bool true) ∧ Below w.heap.size w w' := by
  have HX := Aside0.mk hx
  have HY := Aside0.mk hy
  have HCX := Aside0.mk hcx
  have HCY := Aside0.mk hcy
  clear hx hy hcx hcy
  have F1 := Aside0.mk h1
  have F2 := Aside0.mk h2
  clear h1 h2
  go_enter Try.func6, Try.ntmps6
  go_wp2_with (first
    | (go_at_call 9; (with_reducible refine (pelicanlaw05_awake.calls true _ rfl).mono ?_); rintro e w_ ⟨rfl, hb_⟩; obtain ⟨t1_, t2_⟩ := two_allocs' w (.cells #[.int .i64 x.f0, .int .i64 x.f1, .slice A x.f2.length c] 24 (0, 0)) (.cells #[.int .i64 y.f0, .int .i64 y.f1, .slice B y.f2.length d] 24 (0, 0)); have X1 := Aside0.mk (blk_below t1_ hb_); have X2 := Aside0.mk (blk_below t2_ hb_); have HB := Aside0.mk (below_step (below_alloc (below_alloc (Below.refl w.heap.size w) (.cells #[.int .i64 x.f0, .int .i64 x.f1, .slice A x.f2.length c] 24 (0, 0))) (.cells #[.int .i64 y.f0, .int .i64 y.f1, .slice B y.f2.length d] 24 (0, 0))) hb_); clear t1_ t2_ hb_; obtain ⟨⟨k0, k1, k2⟩, j0, j1, j2⟩ := cells3 X1.out; obtain ⟨⟨k3, k4, k5⟩, j3, j4, j5⟩ := cells3 X2.out)
    | (go_at_call 25; (with_reducible refine (pelicanref05_Nodes.calls q1 x.f0 x.f1 A c x.f2 60 15 r1 _ (Kd.C_below HX.out HB.out) HCX.out F1.out).mono ?_); rintro e w_ ⟨rfl, hb_⟩; clear k0 k1 k2 j0 j1 j2 k3 k4 k5 j3 j4 j5; have HB := Aside0.mk (below_step HB.out hb_); have X1 := Aside0.mk (blk_below X1.out hb_); have X2 := Aside0.mk (blk_below X2.out hb_); obtain ⟨⟨k0, k1, k2⟩, j0, j1, j2⟩ := cells3 X1.out; obtain ⟨⟨k3, k4, k5⟩, j3, j4, j5⟩ := cells3 X2.out; clear hb_)
    | (go_at_call 25; (with_reducible refine (pelicanref05_Nodes.calls q2 y.f0 y.f1 B d y.f2 60 15 r2 _ (Kd.C_below HY.out HB.out) HCY.out F2.out).mono ?_); rintro e w_ ⟨rfl, hb_⟩; clear k0 k1 k2 j0 j1 j2 k3 k4 k5 j3 j4 j5; have HB := Aside0.mk (below_step HB.out hb_); have X1 := Aside0.mk (blk_below X1.out hb_); have X2 := Aside0.mk (blk_below X2.out hb_); obtain ⟨⟨k0, k1, k2⟩, j0, j1, j2⟩ := cells3 X1.out; obtain ⟨⟨k3, k4, k5⟩, j3, j4, j5⟩ := cells3 X2.out; clear hb_))
  go_ret
  exact ⟨rfl, HB.out⟩
set_option maxRecDepth 100000 in
set_option maxHeartbeats 16000000 in
theorem pair_f (x y : S24) (A B : Option Addr) (c d : Nat) (w : World) (hx : Kd.C k24 w A x.f2.length x.f2) (hcx : x.f2.length ≤ c) (hy : Kd.C k24 w B y.f2.length y.f2) (hcy : y.f2.length ≤ d) (q1 q2 : Nat) (r1 r2 n1 n2 d1 d2 m n dd : Int) (hFSx : term_Size.f x.f0 x.f1 x.f2 = some n1) (hFSy : term_Size.f y.f0 y.f1 y.f2 = some n2) (hFDx : term_Depth.f x.f0 x.f1 x.f2 = some d1) (hFDy : term_Depth.f y.f0 y.f1 y.f2 = some d2) (hFMx : term_May.f x.f0 x.f1 x.f2 = some false) (hFSp : term_Size.f 2 0 [x, y] = some n) (hFDg : term_Depth.f 3 0 [x, y] = some dd) (hFMp : term_May.f 2 0 [x, y] = some false) (hFMg : term_May.f 3 0 [x, y] = some false) (hFSa : term_Same.f 2 0 [x, y] 3 0 [x, y] = some false) (hFN1 : pelicanref05_Nodes.f q1 x.f0 x.f1 x.f2 60 15 = some r1) (hFN2 : pelicanref05_Nodes.f q2 y.f0 y.f1 y.f2 60 15 = some r2)
    (e1 : r1 ≤ 60) (e2 : r2 ≤ 60) (e3 : IntKind.i64.wrap (n1 + n2) = m) (e4 : IntKind.i64.wrap (m + 1) = n) (e5 : IntKind.i64.wrap (1 + max d1 d2) = dd)  :
    Calls Try.prog 6 #[.agg #[.int .i64 x.f0, .int .i64 x.f1, .slice A x.f2.length c], .agg #[.int .i64 y.f0, .int .i64 y.f1, .slice B y.f2.length d]] w fun e w' => e = .returned (.bool true) ∧ Below w.heap.size w w' := by
  have HX := Aside0.mk hx
  have HY := Aside0.mk hy
  have HCX := Aside0.mk hcx
  have HCY := Aside0.mk hcy
  clear hx hy hcx hcy
  have FSx := Aside0.mk hFSx
  have FSy := Aside0.mk hFSy
  have FDx := Aside0.mk hFDx
  have FDy := Aside0.mk hFDy
  have FMx := Aside0.mk hFMx
  have FSp := Aside0.mk hFSp
  have FDg := Aside0.mk hFDg
  have FMp := Aside0.mk hFMp
  have FMg := Aside0.mk hFMg
  have FSa := Aside0.mk hFSa
  have FN1 := Aside0.mk hFN1
  have FN2 := Aside0.mk hFN2
  clear hFSx hFSy hFDx hFDy hFMx hFSp hFDg hFMp hFMg hFSa hFN1 hFN2
  go_enter Try.func6, Try.ntmps6
  go_wp2_with (first
    | (go_at_call 9; (with_reducible refine (pelicanlaw05_awake.calls true _ rfl).mono ?_); rintro e w_ ⟨rfl, hb_⟩; obtain ⟨t1_, t2_⟩ := two_allocs' w (.cells #[.int .i64 x.f0, .int .i64 x.f1, .slice A x.f2.length c] 24 (0, 0)) (.cells #[.int .i64 y.f0, .int .i64 y.f1, .slice B y.f2.length d] 24 (0, 0)); have X1 := Aside0.mk (blk_below t1_ hb_); have X2 := Aside0.mk (blk_below t2_ hb_); have HB := Aside0.mk (below_step (below_alloc (below_alloc (Below.refl w.heap.size w) (.cells #[.int .i64 x.f0, .int .i64 x.f1, .slice A x.f2.length c] 24 (0, 0))) (.cells #[.int .i64 y.f0, .int .i64 y.f1, .slice B y.f2.length d] 24 (0, 0))) hb_); clear t1_ t2_ hb_; obtain ⟨⟨k0, k1, k2⟩, j0, j1, j2⟩ := cells3 X1.out; obtain ⟨⟨k3, k4, k5⟩, j3, j4, j5⟩ := cells3 X2.out)
    | (go_at_call 25; (with_reducible refine (pelicanref05_Nodes.calls q1 x.f0 x.f1 A c x.f2 60 15 r1 _ (Kd.C_below HX.out HB.out) HCX.out FN1.out).mono ?_); rintro e w_ ⟨rfl, hb_⟩; clear k0 k1 k2 j0 j1 j2 k3 k4 k5 j3 j4 j5; have HB := Aside0.mk (below_step HB.out hb_); have X1 := Aside0.mk (blk_below X1.out hb_); have X2 := Aside0.mk (blk_below X2.out hb_); obtain ⟨⟨k0, k1, k2⟩, j0, j1, j2⟩ := cells3 X1.out; obtain ⟨⟨k3, k4, k5⟩, j3, j4, j5⟩ := cells3 X2.out; clear hb_)
    | (go_at_call 25; (with_reducible refine (pelicanref05_Nodes.calls q2 y.f0 y.f1 B d y.f2 60 15 r2 _ (Kd.C_below HY.out HB.out) HCY.out FN2.out).mono ?_); rintro e w_ ⟨rfl, hb_⟩; clear k0 k1 k2 j0 j1 j2 k3 k4 k5 j3 j4 j5; have HB := Aside0.mk (below_step HB.out hb_); have X1 := Aside0.mk (blk_below X1.out hb_); have X2 := Aside0.mk (blk_below X2.out hb_); obtain ⟨⟨k0, k1, k2⟩, j0, j1, j2⟩ := cells3 X1.out; obtain ⟨⟨k3, k4, k5⟩, j3, j4, j5⟩ := cells3 X2.out; clear hb_))
  go_cut [6] (fun v_ wc => v_ = .int .i64 n ∧ Aside0 (wc.heap[w.heap.size]? = some (.cells #[.int .i64 x.f0, .int .i64 x.f1, .slice A x.f2.length c] 24 (0, 0))) ∧ Aside0 (wc.heap[w.heap.size + 1]? = some (.cells #[.int .i64 y.f0, .int .i64 y.f1, .slice B y.f2.length d] 24 (0, 0))) ∧ Aside0 (Below w.heap.size w wc))
  case first =>
    have HB := Aside0.mk (below_drew HB.out)
    have X1 := Aside0.mk (blk_drew X1.out)
    have X2 := Aside0.mk (blk_drew X2.out)
    clear k0 k1 k2 j0 j1 j2 k3 k4 k5 j3 j4 j5
    obtain ⟨⟨k0, k1, k2⟩, j0, j1, j2⟩ := cells3 X1.out; obtain ⟨⟨k3, k4, k5⟩, j3, j4, j5⟩ := cells3 X2.out
    go_region_held3 (fun w' => w'.cell? ⟨w.heap.size, 0, none⟩ = some (.int .i64 x.f0) ∧ w'.cell? ⟨w.heap.size, 1, none⟩ = some (.int .i64 x.f1) ∧ w'.cell? ⟨w.heap.size, 2, none⟩ = some (.slice A x.f2.length c) ∧ w'.cell? ⟨w.heap.size + 1, 0, none⟩ = some (.int .i64 y.f0) ∧ w'.cell? ⟨w.heap.size + 1, 1, none⟩ = some (.int .i64 y.f1) ∧ w'.cell? ⟨w.heap.size + 1, 2, none⟩ = some (.slice B y.f2.length d)) (first | exact ⟨k0, k1, k2, k3, k4, k5⟩ | go_keep)
      (first
        | (go_at_call 19; (with_reducible refine (term_Size.calls x.f0 x.f1 A c x.f2 n1 _ (Kd.C_below HX.out HB.out) HCX.out FSx.out).mono ?_); rintro e w_ ⟨rfl, hb_⟩; clear k0 k1 k2 j0 j1 j2 k3 k4 k5 j3 j4 j5; have HB := Aside0.mk (below_step HB.out hb_); have X1 := Aside0.mk (blk_below X1.out hb_); have X2 := Aside0.mk (blk_below X2.out hb_); obtain ⟨⟨k0, k1, k2⟩, j0, j1, j2⟩ := cells3 X1.out; obtain ⟨⟨k3, k4, k5⟩, j3, j4, j5⟩ := cells3 X2.out; clear hb_)
        | (go_at_call 19; (with_reducible refine (term_Size.calls y.f0 y.f1 B d y.f2 n2 _ (Kd.C_below HY.out HB.out) HCY.out FSy.out).mono ?_); rintro e w_ ⟨rfl, hb_⟩; clear k0 k1 k2 j0 j1 j2 k3 k4 k5 j3 j4 j5; have HB := Aside0.mk (below_step HB.out hb_); have X1 := Aside0.mk (blk_below X1.out hb_); have X2 := Aside0.mk (blk_below X2.out hb_); obtain ⟨⟨k0, k1, k2⟩, j0, j1, j2⟩ := cells3 X1.out; obtain ⟨⟨k3, k4, k5⟩, j3, j4, j5⟩ := cells3 X2.out; clear hb_))
    all_goals go_wp2
    all_goals go_meet
    all_goals (case rel => exact ⟨by first | rfl | (have z : IntKind.i64.wrap (1 + d2) = dd := (by rw [← e5, Int.max_eq_right (by omega)]); rw [z]) | (have z : IntKind.i64.wrap (1 + d1) = dd := (by rw [← e5, Int.max_eq_left (by omega)]); rw [z]), X1, X2, HB⟩)
  case rest =>
  obtain ⟨rfl, X1, X2, HB⟩ := hcut
  obtain ⟨⟨k0, k1, k2⟩, j0, j1, j2⟩ := cells3 X1.out; obtain ⟨⟨k3, k4, k5⟩, j3, j4, j5⟩ := cells3 X2.out
  go_wp2
  go_cut [7] (fun v_ wc => v_ = .int .i64 dd ∧ Aside0 (wc.heap[w.heap.size]? = some (.cells #[.int .i64 x.f0, .int .i64 x.f1, .slice A x.f2.length c] 24 (0, 0))) ∧ Aside0 (wc.heap[w.heap.size + 1]? = some (.cells #[.int .i64 y.f0, .int .i64 y.f1, .slice B y.f2.length d] 24 (0, 0))) ∧ Aside0 (Below w.heap.size w wc))
  case first =>
    have HB := Aside0.mk (below_drew HB.out)
    have X1 := Aside0.mk (blk_drew X1.out)
    have X2 := Aside0.mk (blk_drew X2.out)
    clear k0 k1 k2 j0 j1 j2 k3 k4 k5 j3 j4 j5
    obtain ⟨⟨k0, k1, k2⟩, j0, j1, j2⟩ := cells3 X1.out; obtain ⟨⟨k3, k4, k5⟩, j3, j4, j5⟩ := cells3 X2.out
    go_region_held3 (fun w' => w'.cell? ⟨w.heap.size, 0, none⟩ = some (.int .i64 x.f0) ∧ w'.cell? ⟨w.heap.size, 1, none⟩ = some (.int .i64 x.f1) ∧ w'.cell? ⟨w.heap.size, 2, none⟩ = some (.slice A x.f2.length c) ∧ w'.cell? ⟨w.heap.size + 1, 0, none⟩ = some (.int .i64 y.f0) ∧ w'.cell? ⟨w.heap.size + 1, 1, none⟩ = some (.int .i64 y.f1) ∧ w'.cell? ⟨w.heap.size + 1, 2, none⟩ = some (.slice B y.f2.length d)) (first | exact ⟨k0, k1, k2, k3, k4, k5⟩ | go_keep)
      (first
        | (go_at_call 21; (with_reducible refine (term_Depth.calls x.f0 x.f1 A c x.f2 d1 _ (Kd.C_below HX.out HB.out) HCX.out FDx.out).mono ?_); rintro e w_ ⟨rfl, hb_⟩; clear k0 k1 k2 j0 j1 j2 k3 k4 k5 j3 j4 j5; have HB := Aside0.mk (below_step HB.out hb_); have X1 := Aside0.mk (blk_below X1.out hb_); have X2 := Aside0.mk (blk_below X2.out hb_); obtain ⟨⟨k0, k1, k2⟩, j0, j1, j2⟩ := cells3 X1.out; obtain ⟨⟨k3, k4, k5⟩, j3, j4, j5⟩ := cells3 X2.out; clear hb_)
        | (go_at_call 21; (with_reducible refine (term_Depth.calls y.f0 y.f1 B d y.f2 d2 _ (Kd.C_below HY.out HB.out) HCY.out FDy.out).mono ?_); rintro e w_ ⟨rfl, hb_⟩; clear k0 k1 k2 j0 j1 j2 k3 k4 k5 j3 j4 j5; have HB := Aside0.mk (below_step HB.out hb_); have X1 := Aside0.mk (blk_below X1.out hb_); have X2 := Aside0.mk (blk_below X2.out hb_); obtain ⟨⟨k0, k1, k2⟩, j0, j1, j2⟩ := cells3 X1.out; obtain ⟨⟨k3, k4, k5⟩, j3, j4, j5⟩ := cells3 X2.out; clear hb_))
    all_goals go_wp2
    all_goals go_meet
    all_goals (case rel => exact ⟨by first | rfl | (have z : IntKind.i64.wrap (1 + d2) = dd := (by rw [← e5, Int.max_eq_right (by omega)]); rw [z]) | (have z : IntKind.i64.wrap (1 + d1) = dd := (by rw [← e5, Int.max_eq_left (by omega)]); rw [z]), X1, X2, HB⟩)
  case rest =>
  obtain ⟨rfl, X1, X2, HB⟩ := hcut
  obtain ⟨⟨k0, k1, k2⟩, j0, j1, j2⟩ := cells3 X1.out; obtain ⟨⟨k3, k4, k5⟩, j3, j4, j5⟩ := cells3 X2.out
  have Y1 := Aside0.mk (blk_alloc (blk_alloc X1.out (.cells #[.int .i64 x.f0, .int .i64 x.f1, .slice A x.f2.length c, .int .i64 y.f0, .int .i64 y.f1, .slice B y.f2.length d] 24 (0, 0))) (.cells #[.int .i64 2, .int .i64 0, .slice (some ⟨wc.heap.size, 0, none⟩) 2 2] 24 (0, 0)))
  have Y2 := Aside0.mk (blk_alloc (blk_alloc X2.out (.cells #[.int .i64 x.f0, .int .i64 x.f1, .slice A x.f2.length c, .int .i64 y.f0, .int .i64 y.f1, .slice B y.f2.length d] 24 (0, 0))) (.cells #[.int .i64 2, .int .i64 0, .slice (some ⟨wc.heap.size, 0, none⟩) 2 2] 24 (0, 0)))
  obtain ⟨⟨l0, l1, l2⟩, o0, o1, o2⟩ := cells3 Y1.out
  obtain ⟨⟨l3, l4, l5⟩, o3, o4, o5⟩ := cells3 Y2.out
  go_upto_region 8 with (fail)
  obtain ⟨P1, P2, P3, P4⟩ := four_allocs wc (.cells #[.int .i64 x.f0, .int .i64 x.f1, .slice A x.f2.length c, .int .i64 y.f0, .int .i64 y.f1, .slice B y.f2.length d] 24 (0, 0)) (.cells #[.int .i64 2, .int .i64 0, .slice (some ⟨wc.heap.size, 0, none⟩) 2 2] 24 (0, 0)) (.cells #[.int .i64 x.f0, .int .i64 x.f1, .slice A x.f2.length c, .int .i64 y.f0, .int .i64 y.f1, .slice B y.f2.length d] 24 (0, 0)) (.cells #[.int .i64 3, .int .i64 0, .slice (some ⟨wc.heap.size + 2, 0, none⟩) 2 2] 24 (0, 0))
  have P1 := Aside0.mk P1
  have P2 := Aside0.mk P2
  have P3 := Aside0.mk P3
  have P4 := Aside0.mk P4
  have X1 := Aside0.mk (blk_alloc (blk_alloc Y1.out (.cells #[.int .i64 x.f0, .int .i64 x.f1, .slice A x.f2.length c, .int .i64 y.f0, .int .i64 y.f1, .slice B y.f2.length d] 24 (0, 0))) (.cells #[.int .i64 3, .int .i64 0, .slice (some ⟨wc.heap.size + 2, 0, none⟩) 2 2] 24 (0, 0)))
  have X2 := Aside0.mk (blk_alloc (blk_alloc Y2.out (.cells #[.int .i64 x.f0, .int .i64 x.f1, .slice A x.f2.length c, .int .i64 y.f0, .int .i64 y.f1, .slice B y.f2.length d] 24 (0, 0))) (.cells #[.int .i64 3, .int .i64 0, .slice (some ⟨wc.heap.size + 2, 0, none⟩) 2 2] 24 (0, 0)))
  have HB := Aside0.mk (below_alloc (below_alloc (below_alloc (below_alloc HB.out (.cells #[.int .i64 x.f0, .int .i64 x.f1, .slice A x.f2.length c, .int .i64 y.f0, .int .i64 y.f1, .slice B y.f2.length d] 24 (0, 0))) (.cells #[.int .i64 2, .int .i64 0, .slice (some ⟨wc.heap.size, 0, none⟩) 2 2] 24 (0, 0))) (.cells #[.int .i64 x.f0, .int .i64 x.f1, .slice A x.f2.length c, .int .i64 y.f0, .int .i64 y.f1, .slice B y.f2.length d] 24 (0, 0))) (.cells #[.int .i64 3, .int .i64 0, .slice (some ⟨wc.heap.size + 2, 0, none⟩) 2 2] 24 (0, 0)))
  clear l0 l1 l2 o0 o1 o2 l3 l4 l5 o3 o4 o5
  clear k0 k1 k2 j0 j1 j2 k3 k4 k5 j3 j4 j5
  obtain ⟨W4, hW4⟩ : ∃ W4, W4 = ((((wc.alloc (.cells #[.int .i64 x.f0, .int .i64 x.f1, .slice A x.f2.length c, .int .i64 y.f0, .int .i64 y.f1, .slice B y.f2.length d] 24 (0, 0))).alloc (.cells #[.int .i64 2, .int .i64 0, .slice (some ⟨wc.heap.size, 0, none⟩) 2 2] 24 (0, 0))).alloc (.cells #[.int .i64 x.f0, .int .i64 x.f1, .slice A x.f2.length c, .int .i64 y.f0, .int .i64 y.f1, .slice B y.f2.length d] 24 (0, 0))).alloc (.cells #[.int .i64 3, .int .i64 0, .slice (some ⟨wc.heap.size + 2, 0, none⟩) 2 2] 24 (0, 0))) := ⟨_, rfl⟩
  rw [← hW4]
  rw [← hW4] at P1 P2 P3 P4 X1 X2 HB
  clear hW4
  have HP := Aside0.mk (C_two P1.out (k24_mk _ x HCX.out (Kd.C_below HX.out HB.out)) (k24_mk _ y HCY.out (Kd.C_below HY.out HB.out)))
  have HG := Aside0.mk (C_two P3.out (k24_mk _ x HCX.out (Kd.C_below HX.out HB.out)) (k24_mk _ y HCY.out (Kd.C_below HY.out HB.out)))
  obtain ⟨⟨k0, k1, k2⟩, j0, j1, j2⟩ := cells3 X1.out; obtain ⟨⟨k3, k4, k5⟩, j3, j4, j5⟩ := cells3 X2.out
  go_wp2_with (first
    | (go_at_call 23; (with_reducible refine (term_May.calls x.f0 x.f1 A c x.f2 false _ (Kd.C_below HX.out HB.out) HCX.out FMx.out).mono ?_); rintro e w_ ⟨rfl, hb_⟩; have HB := Aside0.mk (below_step HB.out hb_); have X1 := Aside0.mk (blk_below X1.out hb_); have X2 := Aside0.mk (blk_below X2.out hb_); have HP := Aside0.mk (Kd.C_below HP.out hb_); have P2 := Aside0.mk (blk_below P2.out hb_); have HG := Aside0.mk (Kd.C_below HG.out hb_); have P4 := Aside0.mk (blk_below P4.out hb_); clear hb_; clear k0 k1 k2 j0 j1 j2 k3 k4 k5 j3 j4 j5; obtain ⟨⟨k0, k1, k2⟩, j0, j1, j2⟩ := cells3 X1.out; obtain ⟨⟨k3, k4, k5⟩, j3, j4, j5⟩ := cells3 X2.out))
  have HB := Aside0.mk (below_drew HB.out)
  have X1 := Aside0.mk (blk_drew X1.out)
  have X2 := Aside0.mk (blk_drew X2.out)
  have HP := Aside0.mk (Kd.C_drew HP.out)
  have P2 := Aside0.mk (blk_drew P2.out)
  have HG := Aside0.mk (Kd.C_drew HG.out)
  have P4 := Aside0.mk (blk_drew P4.out)
  obtain ⟨⟨m0, m1, m2⟩, i0, i1, i2⟩ := cells3 P2.out; obtain ⟨⟨m3, m4, m5⟩, i3, i4, i5⟩ := cells3 P4.out
  refine start_ (n := 38) (S := fun w' => w'.cell? ⟨wc.heap.size + 1, 0, none⟩ = some (.int .i64 2) ∧ w'.cell? ⟨wc.heap.size + 1, 1, none⟩ = some (.int .i64 0) ∧ w'.cell? ⟨wc.heap.size + 1, 2, none⟩ = some (.slice (some ⟨wc.heap.size, 0, none⟩) 2 2) ∧ w'.cell? ⟨wc.heap.size + 3, 0, none⟩ = some (.int .i64 3) ∧ w'.cell? ⟨wc.heap.size + 3, 1, none⟩ = some (.int .i64 0) ∧ w'.cell? ⟨wc.heap.size + 3, 2, none⟩ = some (.slice (some ⟨wc.heap.size + 2, 0, none⟩) 2 2)) (ds := []) #[false, false, false, false, false, false, false, false, false, false, false, false, false, false, false, false, false, false, false, false, false, false, false, false, false, false, false, false, false, false, false, false, false, false, false, false, false, false] (by kernel_rfl) rfl rfl ⟨m0, m1, m2, m3, m4, m5⟩ (fun hHeld => ?_)
  refine pure_ (i := 2) (N := some 53) (v := ?_) (a' := ?_) #[false, false, true, false, false, false, false, false, false, false, false, false, false, false, false, false, false, false, false, false, false, false, false, false, false, false, false, false, false, false, false, false, false, false, false, false, false, false] rfl rfl (by kernel_rfl) (fun _ _ _ h => h) (Or.inl ⟨by rfl, ?_⟩) ?_ ?_
  rotate_left
  · intro w'
    go_simp
    with_reducible rfl
  rotate_left
  · simp only [Act.put, List.setIfInBounds_toArray, List.set_cons_zero, List.set_cons_succ, i64_w, i32_w]
    rfl
  refine take_ (i := 0) (N := some 51) (v := ?_) (a' := ?_) #[true, false, true, false, false, false, false, false, false, false, false, false, false, false, false, false, false, false, false, false, false, false, false, false, false, false, false, false, false, false, false, false, false, false, false, false, false, false] rfl rfl (by kernel_rfl) (fun _ _ _ h => h) (Or.inl ⟨by rfl, ?_⟩) hHeld ?_ ?_
  rotate_left
  · rintro w' ⟨s0, s1, s2, s3, s4, s5⟩
    go_simp
    with_reducible rfl
  rotate_left
  · simp only [Act.put, List.setIfInBounds_toArray, List.set_cons_zero, List.set_cons_succ, i64_w, i32_w]
    rfl
  refine one_ (i := 1) (N := some 52) #[true, true, true, false, false, false, false, false, false, false, false, false, false, false, false, false, false, false, false, false, false, false, false, false, false, false, false, false, false, false, false, false, false, false, false, false, false, false] rfl rfl (by kernel_rfl) (by decide) (fun K hK => ?_)
  refine goes_ Try.func19 (by kernel_rfl) rfl #[.agg #[.int .i64 2, .int .i64 0, .slice (some ⟨wc.heap.size, 0, none⟩) 2 2]] (by rfl) rfl rfl (by simp only [List.map_toArray, List.map_cons, List.map_nil]; rfl) ?_
  with_reducible refine (size2 2 x y (some ⟨wc.heap.size, 0, none⟩) _ n FSp.out HP.out).mono ?_
  rintro e w_ ⟨rfl, hb_⟩
  refine ⟨_, rfl, ?_⟩
  have HB := Aside0.mk (below_step HB.out hb_)
  have X1 := Aside0.mk (blk_below X1.out hb_)
  have X2 := Aside0.mk (blk_below X2.out hb_)
  have HP := Aside0.mk (Kd.C_below HP.out hb_)
  have P2 := Aside0.mk (blk_below P2.out hb_)
  have HG := Aside0.mk (Kd.C_below HG.out hb_)
  have P4 := Aside0.mk (blk_below P4.out hb_)
  clear hb_
  clear m0 m1 m2 i0 i1 i2 m3 m4 m5 i3 i4 i5
  obtain ⟨⟨m0, m1, m2⟩, i0, i1, i2⟩ := cells3 P2.out
  obtain ⟨⟨m3, m4, m5⟩, i3, i4, i5⟩ := cells3 P4.out
  refine hK.out _ _ ⟨m0, m1, m2, m3, m4, m5⟩ (fun hHeld => ?_)
  clear hK K
  refine norm_ (a' := ?_) ?_ ?_
  rotate_left
  · show Act.put _ (some 52) _ = _
    simp only [Act.put, List.setIfInBounds_toArray, List.set_cons_zero, List.set_cons_succ, i64_w, i32_w]
    rfl
  refine pure_ (i := 3) (N := some 54) (v := ?_) (a' := ?_) #[true, true, true, true, false, false, false, false, false, false, false, false, false, false, false, false, false, false, false, false, false, false, false, false, false, false, false, false, false, false, false, false, false, false, false, false, false, false] rfl rfl (by kernel_rfl) (fun _ _ _ h => h) (Or.inl ⟨by rfl, ?_⟩) ?_ ?_
  rotate_left
  · intro w'
    go_simp
    with_reducible rfl
  rotate_left
  · simp only [Act.put, List.setIfInBounds_toArray, List.set_cons_zero, List.set_cons_succ, i64_w, i32_w]
    rfl
  refine pure_ (i := 4) (N := some 55) (v := ?_) (a' := ?_) #[true, true, true, true, true, false, false, false, false, false, false, false, false, false, false, false, false, false, false, false, false, false, false, false, false, false, false, false, false, false, false, false, false, false, false, false, false, false] rfl rfl (by kernel_rfl) (fun _ _ _ h => h) (Or.inl ⟨by rfl, ?_⟩) ?_ ?_
  rotate_left
  · intro w'
    go_simp
    with_reducible rfl
  rotate_left
  · simp only [Act.put, List.setIfInBounds_toArray, List.set_cons_zero, List.set_cons_succ, i64_w, i32_w]
    rfl
  refine pure_ (i := 7) (N := some 58) (v := ?_) (a' := ?_) #[true, true, true, true, true, false, false, true, false, false, false, false, false, false, false, false, false, false, false, false, false, false, false, false, false, false, false, false, false, false, false, false, false, false, false, false, false, false] rfl rfl (by kernel_rfl) (fun _ _ _ h => h) (Or.inl ⟨by rfl, ?_⟩) ?_ ?_
  rotate_left
  · intro w'
    go_simp
    with_reducible rfl
  rotate_left
  · simp only [Act.put, List.setIfInBounds_toArray, List.set_cons_zero, List.set_cons_succ, i64_w, i32_w]
    rfl
  refine take_ (i := 5) (N := some 56) (v := ?_) (a' := ?_) #[true, true, true, true, true, true, false, true, false, false, false, false, false, false, false, false, false, false, false, false, false, false, false, false, false, false, false, false, false, false, false, false, false, false, false, false, false, false] rfl rfl (by kernel_rfl) (fun _ _ _ h => h) (Or.inl ⟨by rfl, ?_⟩) hHeld ?_ ?_
  rotate_left
  · rintro w' ⟨s0, s1, s2, s3, s4, s5⟩
    go_simp
    with_reducible rfl
  rotate_left
  · simp only [Act.put, List.setIfInBounds_toArray, List.set_cons_zero, List.set_cons_succ, i64_w, i32_w]
    rfl
  refine one_ (i := 6) (N := some 57) #[true, true, true, true, true, true, true, true, false, false, false, false, false, false, false, false, false, false, false, false, false, false, false, false, false, false, false, false, false, false, false, false, false, false, false, false, false, false] rfl rfl (by kernel_rfl) (by decide) (fun K hK => ?_)
  refine goes_ Try.func21 (by kernel_rfl) rfl #[.agg #[.int .i64 3, .int .i64 0, .slice (some ⟨wc.heap.size + 2, 0, none⟩) 2 2]] (by rfl) rfl rfl (by simp only [List.map_toArray, List.map_cons, List.map_nil]; rfl) ?_
  with_reducible refine (depth2 3 x y (some ⟨wc.heap.size + 2, 0, none⟩) _ dd FDg.out HG.out).mono ?_
  rintro e w_ ⟨rfl, hb_⟩
  refine ⟨_, rfl, ?_⟩
  have HB := Aside0.mk (below_step HB.out hb_)
  have X1 := Aside0.mk (blk_below X1.out hb_)
  have X2 := Aside0.mk (blk_below X2.out hb_)
  have HP := Aside0.mk (Kd.C_below HP.out hb_)
  have P2 := Aside0.mk (blk_below P2.out hb_)
  have HG := Aside0.mk (Kd.C_below HG.out hb_)
  have P4 := Aside0.mk (blk_below P4.out hb_)
  clear hb_
  clear m0 m1 m2 i0 i1 i2 m3 m4 m5 i3 i4 i5
  obtain ⟨⟨m0, m1, m2⟩, i0, i1, i2⟩ := cells3 P2.out
  obtain ⟨⟨m3, m4, m5⟩, i3, i4, i5⟩ := cells3 P4.out
  refine hK.out _ _ ⟨m0, m1, m2, m3, m4, m5⟩ (fun hHeld => ?_)
  clear hK K
  refine norm_ (a' := ?_) ?_ ?_
  rotate_left
  · show Act.put _ (some 57) _ = _
    simp only [Act.put, List.setIfInBounds_toArray, List.set_cons_zero, List.set_cons_succ, i64_w, i32_w]
    rfl
  refine pure_ (i := 8) (N := some 59) (v := ?_) (a' := ?_) #[true, true, true, true, true, true, true, true, true, false, false, false, false, false, false, false, false, false, false, false, false, false, false, false, false, false, false, false, false, false, false, false, false, false, false, false, false, false] rfl rfl (by kernel_rfl) (fun _ _ _ h => h) (Or.inl ⟨by rfl, ?_⟩) ?_ ?_
  rotate_left
  · intro w'
    go_simp
    with_reducible rfl
  rotate_left
  · simp only [Act.put, List.setIfInBounds_toArray, List.set_cons_zero, List.set_cons_succ, i64_w, i32_w]
    rfl
  refine pure_ (i := 9) (N := some 60) (v := ?_) (a' := ?_) #[true, true, true, true, true, true, true, true, true, true, false, false, false, false, false, false, false, false, false, false, false, false, false, false, false, false, false, false, false, false, false, false, false, false, false, false, false, false] rfl rfl (by kernel_rfl) (fun _ _ _ h => h) (Or.inl ⟨by rfl, ?_⟩) ?_ ?_
  rotate_left
  · intro w'
    go_simp
    with_reducible rfl
  rotate_left
  · simp only [Act.put, List.setIfInBounds_toArray, List.set_cons_zero, List.set_cons_succ, i64_w, i32_w]
    rfl
  refine pure_ (i := 10) (N := some 61) (v := ?_) (a' := ?_) #[true, true, true, true, true, true, true, true, true, true, true, false, false, false, false, false, false, false, false, false, false, false, false, false, false, false, false, false, false, false, false, false, false, false, false, false, false, false] rfl rfl (by kernel_rfl) (fun _ _ _ h => h) (Or.inl ⟨by rfl, ?_⟩) ?_ ?_
  rotate_left
  · intro w'
    go_simp
    with_reducible rfl
  rotate_left
  · simp only [Act.put, List.setIfInBounds_toArray, List.set_cons_zero, List.set_cons_succ, i64_w, i32_w]
    rfl
  refine pure_ (i := 13) (N := some 64) (v := ?_) (a' := ?_) #[true, true, true, true, true, true, true, true, true, true, true, false, false, true, false, false, false, false, false, false, false, false, false, false, false, false, false, false, false, false, false, false, false, false, false, false, false, false] rfl rfl (by kernel_rfl) (fun _ _ _ h => h) (Or.inl ⟨by rfl, ?_⟩) ?_ ?_
  rotate_left
  · intro w'
    go_simp
    with_reducible rfl
  rotate_left
  · simp only [Act.put, List.setIfInBounds_toArray, List.set_cons_zero, List.set_cons_succ, i64_w, i32_w]
    rfl
  refine take_ (i := 11) (N := some 62) (v := ?_) (a' := ?_) #[true, true, true, true, true, true, true, true, true, true, true, true, false, true, false, false, false, false, false, false, false, false, false, false, false, false, false, false, false, false, false, false, false, false, false, false, false, false] rfl rfl (by kernel_rfl) (fun _ _ _ h => h) (Or.inl ⟨by rfl, ?_⟩) hHeld ?_ ?_
  rotate_left
  · rintro w' ⟨s0, s1, s2, s3, s4, s5⟩
    go_simp
    with_reducible rfl
  rotate_left
  · simp only [Act.put, List.setIfInBounds_toArray, List.set_cons_zero, List.set_cons_succ, i64_w, i32_w]
    rfl
  refine one_ (i := 12) (N := some 63) #[true, true, true, true, true, true, true, true, true, true, true, true, true, true, false, false, false, false, false, false, false, false, false, false, false, false, false, false, false, false, false, false, false, false, false, false, false, false] rfl rfl (by kernel_rfl) (by decide) (fun K hK => ?_)
  refine goes_ Try.func23 (by kernel_rfl) rfl #[.agg #[.int .i64 2, .int .i64 0, .slice (some ⟨wc.heap.size, 0, none⟩) 2 2]] (by rfl) rfl rfl (by simp only [List.map_toArray, List.map_cons, List.map_nil]; rfl) ?_
  with_reducible refine (may2 2 x y (some ⟨wc.heap.size, 0, none⟩) _ false FMp.out HP.out).mono ?_
  rintro e w_ ⟨rfl, hb_⟩
  refine ⟨_, rfl, ?_⟩
  have HB := Aside0.mk (below_step HB.out hb_)
  have X1 := Aside0.mk (blk_below X1.out hb_)
  have X2 := Aside0.mk (blk_below X2.out hb_)
  have HP := Aside0.mk (Kd.C_below HP.out hb_)
  have P2 := Aside0.mk (blk_below P2.out hb_)
  have HG := Aside0.mk (Kd.C_below HG.out hb_)
  have P4 := Aside0.mk (blk_below P4.out hb_)
  clear hb_
  clear m0 m1 m2 i0 i1 i2 m3 m4 m5 i3 i4 i5
  obtain ⟨⟨m0, m1, m2⟩, i0, i1, i2⟩ := cells3 P2.out
  obtain ⟨⟨m3, m4, m5⟩, i3, i4, i5⟩ := cells3 P4.out
  refine hK.out _ _ ⟨m0, m1, m2, m3, m4, m5⟩ (fun hHeld => ?_)
  clear hK K
  refine norm_ (a' := ?_) ?_ ?_
  rotate_left
  · show Act.put _ (some 63) _ = _
    simp only [Act.put, List.setIfInBounds_toArray, List.set_cons_zero, List.set_cons_succ, i64_w, i32_w]
    rfl
  refine pure_ (i := 14) (N := some 65) (v := ?_) (a' := ?_) #[true, true, true, true, true, true, true, true, true, true, true, true, true, true, true, false, false, false, false, false, false, false, false, false, false, false, false, false, false, false, false, false, false, false, false, false, false, false] rfl rfl (by kernel_rfl) (fun _ _ _ h => h) (Or.inl ⟨by rfl, ?_⟩) ?_ ?_
  rotate_left
  · intro w'
    go_simp
    with_reducible rfl
  rotate_left
  · simp only [Act.put, List.setIfInBounds_toArray, List.set_cons_zero, List.set_cons_succ, i64_w, i32_w]
    rfl
  refine pure_ (i := 15) (N := some 66) (v := undef) (a' := ?_) #[true, true, true, true, true, true, true, true, true, true, true, true, true, true, true, true, false, false, false, false, false, false, false, false, false, false, false, false, false, false, false, false, false, false, false, false, false, false] rfl rfl (by kernel_rfl) (fun _ _ _ h => h) (Or.inr ⟨by rfl, rfl⟩) ?_ ?_
  rotate_left
  · simp only [Act.put, List.setIfInBounds_toArray, List.set_cons_zero, List.set_cons_succ, i64_w, i32_w]
    rfl
  refine pure_ (i := 16) (N := some 67) (v := undef) (a' := ?_) #[true, true, true, true, true, true, true, true, true, true, true, true, true, true, true, true, true, false, false, false, false, false, false, false, false, false, false, false, false, false, false, false, false, false, false, false, false, false] rfl rfl (by kernel_rfl) (fun _ _ _ h => h) (Or.inr ⟨by rfl, rfl⟩) ?_ ?_
  rotate_left
  · simp only [Act.put, List.setIfInBounds_toArray, List.set_cons_zero, List.set_cons_succ, i64_w, i32_w]
    rfl
  refine pure_ (i := 17) (N := some 68) (v := ?_) (a' := ?_) #[true, true, true, true, true, true, true, true, true, true, true, true, true, true, true, true, true, true, false, false, false, false, false, false, false, false, false, false, false, false, false, false, false, false, false, false, false, false] rfl rfl (by kernel_rfl) (fun _ _ _ h => h) (Or.inl ⟨by rfl, ?_⟩) ?_ ?_
  rotate_left
  · intro w'
    go_simp
    with_reducible rfl
  rotate_left
  · simp only [Act.put, List.setIfInBounds_toArray, List.set_cons_zero, List.set_cons_succ, i64_w, i32_w]
    rfl
  refine pure_ (i := 18) (N := some 69) (v := ?_) (a' := ?_) #[true, true, true, true, true, true, true, true, true, true, true, true, true, true, true, true, true, true, true, false, false, false, false, false, false, false, false, false, false, false, false, false, false, false, false, false, false, false] rfl rfl (by kernel_rfl) (fun _ _ _ h => h) (Or.inl ⟨by rfl, ?_⟩) ?_ ?_
  rotate_left
  · intro w'
    go_simp
    with_reducible rfl
  rotate_left
  · simp only [Act.put, List.setIfInBounds_toArray, List.set_cons_zero, List.set_cons_succ, i64_w, i32_w]
    rfl
  refine pure_ (i := 19) (N := some 70) (v := undef) (a' := ?_) #[true, true, true, true, true, true, true, true, true, true, true, true, true, true, true, true, true, true, true, true, false, false, false, false, false, false, false, false, false, false, false, false, false, false, false, false, false, false] rfl rfl (by kernel_rfl) (fun _ _ _ h => h) (Or.inr ⟨by rfl, rfl⟩) ?_ ?_
  rotate_left
  · simp only [Act.put, List.setIfInBounds_toArray, List.set_cons_zero, List.set_cons_succ, i64_w, i32_w]
    rfl
  refine pure_ (i := 20) (N := some 71) (v := undef) (a' := ?_) #[true, true, true, true, true, true, true, true, true, true, true, true, true, true, true, true, true, true, true, true, true, false, false, false, false, false, false, false, false, false, false, false, false, false, false, false, false, false] rfl rfl (by kernel_rfl) (fun _ _ _ h => h) (Or.inr ⟨by rfl, rfl⟩) ?_ ?_
  rotate_left
  · simp only [Act.put, List.setIfInBounds_toArray, List.set_cons_zero, List.set_cons_succ, i64_w, i32_w]
    rfl
  refine pure_ (i := 21) (N := some 72) (v := ?_) (a' := ?_) #[true, true, true, true, true, true, true, true, true, true, true, true, true, true, true, true, true, true, true, true, true, true, false, false, false, false, false, false, false, false, false, false, false, false, false, false, false, false] rfl rfl (by kernel_rfl) (fun _ _ _ h => h) (Or.inl ⟨by rfl, ?_⟩) ?_ ?_
  rotate_left
  · intro w'
    go_simp
    with_reducible rfl
  rotate_left
  · simp only [Act.put, List.setIfInBounds_toArray, List.set_cons_zero, List.set_cons_succ, i64_w, i32_w]
    rfl
  refine pure_ (i := 22) (N := some 73) (v := ?_) (a' := ?_) #[true, true, true, true, true, true, true, true, true, true, true, true, true, true, true, true, true, true, true, true, true, true, true, false, false, false, false, false, false, false, false, false, false, false, false, false, false, false] rfl rfl (by kernel_rfl) (fun _ _ _ h => h) (Or.inl ⟨by rfl, ?_⟩) ?_ ?_
  rotate_left
  · intro w'
    go_simp
    with_reducible rfl
  rotate_left
  · simp only [Act.put, List.setIfInBounds_toArray, List.set_cons_zero, List.set_cons_succ, i64_w, i32_w]
    rfl
  refine pure_ (i := 23) (N := some 74) (v := ?_) (a' := ?_) #[true, true, true, true, true, true, true, true, true, true, true, true, true, true, true, true, true, true, true, true, true, true, true, true, false, false, false, false, false, false, false, false, false, false, false, false, false, false] rfl rfl (by kernel_rfl) (fun _ _ _ h => h) (Or.inl ⟨by rfl, ?_⟩) ?_ ?_
  rotate_left
  · intro w'
    go_simp
    with_reducible rfl
  rotate_left
  · simp only [Act.put, List.setIfInBounds_toArray, List.set_cons_zero, List.set_cons_succ, i64_w, i32_w]
    rfl
  refine pure_ (i := 24) (N := some 75) (v := ?_) (a' := ?_) #[true, true, true, true, true, true, true, true, true, true, true, true, true, true, true, true, true, true, true, true, true, true, true, true, true, false, false, false, false, false, false, false, false, false, false, false, false, false] rfl rfl (by kernel_rfl) (fun _ _ _ h => h) (Or.inl ⟨by rfl, ?_⟩) ?_ ?_
  rotate_left
  · intro w'
    go_simp
    with_reducible rfl
  rotate_left
  · simp only [Act.put, List.setIfInBounds_toArray, List.set_cons_zero, List.set_cons_succ, i64_w, i32_w]
    rfl
  refine take_ (i := 25) (N := some 76) (v := ?_) (a' := ?_) #[true, true, true, true, true, true, true, true, true, true, true, true, true, true, true, true, true, true, true, true, true, true, true, true, true, true, false, false, false, false, false, false, false, false, false, false, false, false] rfl rfl (by kernel_rfl) (fun _ _ _ h => h) (Or.inl ⟨by rfl, ?_⟩) hHeld ?_ ?_
  rotate_left
  · rintro w' ⟨s0, s1, s2, s3, s4, s5⟩
    go_simp
    with_reducible rfl
  rotate_left
  · simp only [Act.put, List.setIfInBounds_toArray, List.set_cons_zero, List.set_cons_succ, i64_w, i32_w]
    rfl
  refine take_ (i := 27) (N := some 78) (v := ?_) (a' := ?_) #[true, true, true, true, true, true, true, true, true, true, true, true, true, true, true, true, true, true, true, true, true, true, true, true, true, true, false, true, false, false, false, false, false, false, false, false, false, false] rfl rfl (by kernel_rfl) (fun _ _ _ h => h) (Or.inl ⟨by rfl, ?_⟩) hHeld ?_ ?_
  rotate_left
  · rintro w' ⟨s0, s1, s2, s3, s4, s5⟩
    go_simp
    with_reducible rfl
  rotate_left
  · simp only [Act.put, List.setIfInBounds_toArray, List.set_cons_zero, List.set_cons_succ, i64_w, i32_w]
    rfl
  refine one_ (i := 26) (N := some 77) #[true, true, true, true, true, true, true, true, true, true, true, true, true, true, true, true, true, true, true, true, true, true, true, true, true, true, true, true, false, false, false, false, false, false, false, false, false, false] rfl rfl (by kernel_rfl) (by decide) (fun K hK => ?_)
  refine goes_ Try.func23 (by kernel_rfl) rfl #[.agg #[.int .i64 2, .int .i64 0, .slice (some ⟨wc.heap.size, 0, none⟩) 2 2]] (by rfl) rfl rfl (by simp only [List.map_toArray, List.map_cons, List.map_nil]; rfl) ?_
  with_reducible refine (may2 2 x y (some ⟨wc.heap.size, 0, none⟩) _ false FMp.out HP.out).mono ?_
  rintro e w_ ⟨rfl, hb_⟩
  refine ⟨_, rfl, ?_⟩
  have HB := Aside0.mk (below_step HB.out hb_)
  have X1 := Aside0.mk (blk_below X1.out hb_)
  have X2 := Aside0.mk (blk_below X2.out hb_)
  have HP := Aside0.mk (Kd.C_below HP.out hb_)
  have P2 := Aside0.mk (blk_below P2.out hb_)
  have HG := Aside0.mk (Kd.C_below HG.out hb_)
  have P4 := Aside0.mk (blk_below P4.out hb_)
  clear hb_
  clear m0 m1 m2 i0 i1 i2 m3 m4 m5 i3 i4 i5
  obtain ⟨⟨m0, m1, m2⟩, i0, i1, i2⟩ := cells3 P2.out
  obtain ⟨⟨m3, m4, m5⟩, i3, i4, i5⟩ := cells3 P4.out
  refine hK.out _ _ ⟨m0, m1, m2, m3, m4, m5⟩ (fun hHeld => ?_)
  clear hK K
  refine norm_ (a' := ?_) ?_ ?_
  rotate_left
  · show Act.put _ (some 77) _ = _
    simp only [Act.put, List.setIfInBounds_toArray, List.set_cons_zero, List.set_cons_succ, i64_w, i32_w]
    rfl
  refine one_ (i := 28) (N := some 79) #[true, true, true, true, true, true, true, true, true, true, true, true, true, true, true, true, true, true, true, true, true, true, true, true, true, true, true, true, true, false, false, false, false, false, false, false, false, false] rfl rfl (by kernel_rfl) (by decide) (fun K hK => ?_)
  refine goes_ Try.func23 (by kernel_rfl) rfl #[.agg #[.int .i64 3, .int .i64 0, .slice (some ⟨wc.heap.size + 2, 0, none⟩) 2 2]] (by rfl) rfl rfl (by simp only [List.map_toArray, List.map_cons, List.map_nil]; rfl) ?_
  with_reducible refine (may2 3 x y (some ⟨wc.heap.size + 2, 0, none⟩) _ false FMg.out HG.out).mono ?_
  rintro e w_ ⟨rfl, hb_⟩
  refine ⟨_, rfl, ?_⟩
  have HB := Aside0.mk (below_step HB.out hb_)
  have X1 := Aside0.mk (blk_below X1.out hb_)
  have X2 := Aside0.mk (blk_below X2.out hb_)
  have HP := Aside0.mk (Kd.C_below HP.out hb_)
  have P2 := Aside0.mk (blk_below P2.out hb_)
  have HG := Aside0.mk (Kd.C_below HG.out hb_)
  have P4 := Aside0.mk (blk_below P4.out hb_)
  clear hb_
  clear m0 m1 m2 i0 i1 i2 m3 m4 m5 i3 i4 i5
  obtain ⟨⟨m0, m1, m2⟩, i0, i1, i2⟩ := cells3 P2.out
  obtain ⟨⟨m3, m4, m5⟩, i3, i4, i5⟩ := cells3 P4.out
  refine hK.out _ _ ⟨m0, m1, m2, m3, m4, m5⟩ (fun hHeld => ?_)
  clear hK K
  refine norm_ (a' := ?_) ?_ ?_
  rotate_left
  · show Act.put _ (some 79) _ = _
    simp only [Act.put, List.setIfInBounds_toArray, List.set_cons_zero, List.set_cons_succ, i64_w, i32_w]
    rfl
  refine pure_ (i := 29) (N := some 80) (v := ?_) (a' := ?_) #[true, true, true, true, true, true, true, true, true, true, true, true, true, true, true, true, true, true, true, true, true, true, true, true, true, true, true, true, true, true, false, false, false, false, false, false, false, false] rfl rfl (by kernel_rfl) (fun _ _ _ h => h) (Or.inl ⟨by rfl, ?_⟩) ?_ ?_
  rotate_left
  · intro w'
    go_simp
    with_reducible rfl
  rotate_left
  · simp only [Act.put, List.setIfInBounds_toArray, List.set_cons_zero, List.set_cons_succ, i64_w, i32_w]
    rfl
  refine pure_ (i := 30) (N := some 81) (v := ?_) (a' := ?_) #[true, true, true, true, true, true, true, true, true, true, true, true, true, true, true, true, true, true, true, true, true, true, true, true, true, true, true, true, true, true, true, false, false, false, false, false, false, false] rfl rfl (by kernel_rfl) (fun _ _ _ h => h) (Or.inl ⟨by rfl, ?_⟩) ?_ ?_
  rotate_left
  · intro w'
    go_simp
    with_reducible rfl
  rotate_left
  · simp only [Act.put, List.setIfInBounds_toArray, List.set_cons_zero, List.set_cons_succ, i64_w, i32_w]
    rfl
  refine pure_ (i := 31) (N := some 82) (v := ?_) (a' := ?_) #[true, true, true, true, true, true, true, true, true, true, true, true, true, true, true, true, true, true, true, true, true, true, true, true, true, true, true, true, true, true, true, true, false, false, false, false, false, false] rfl rfl (by kernel_rfl) (fun _ _ _ h => h) (Or.inl ⟨by rfl, ?_⟩) ?_ ?_
  rotate_left
  · intro w'
    go_simp
    with_reducible rfl
  rotate_left
  · simp only [Act.put, List.setIfInBounds_toArray, List.set_cons_zero, List.set_cons_succ, i64_w, i32_w]
    rfl
  refine take_ (i := 32) (N := some 83) (v := ?_) (a' := ?_) #[true, true, true, true, true, true, true, true, true, true, true, true, true, true, true, true, true, true, true, true, true, true, true, true, true, true, true, true, true, true, true, true, true, false, false, false, false, false] rfl rfl (by kernel_rfl) (fun _ _ _ h => h) (Or.inl ⟨by rfl, ?_⟩) hHeld ?_ ?_
  rotate_left
  · rintro w' ⟨s0, s1, s2, s3, s4, s5⟩
    go_simp
    with_reducible rfl
  rotate_left
  · simp only [Act.put, List.setIfInBounds_toArray, List.set_cons_zero, List.set_cons_succ, i64_w, i32_w]
    rfl
  refine take_ (i := 33) (N := some 84) (v := ?_) (a' := ?_) #[true, true, true, true, true, true, true, true, true, true, true, true, true, true, true, true, true, true, true, true, true, true, true, true, true, true, true, true, true, true, true, true, true, true, false, false, false, false] rfl rfl (by kernel_rfl) (fun _ _ _ h => h) (Or.inl ⟨by rfl, ?_⟩) hHeld ?_ ?_
  rotate_left
  · rintro w' ⟨s0, s1, s2, s3, s4, s5⟩
    go_simp
    with_reducible rfl
  rotate_left
  · simp only [Act.put, List.setIfInBounds_toArray, List.set_cons_zero, List.set_cons_succ, i64_w, i32_w]
    rfl
  refine one_ (i := 34) (N := some 85) #[true, true, true, true, true, true, true, true, true, true, true, true, true, true, true, true, true, true, true, true, true, true, true, true, true, true, true, true, true, true, true, true, true, true, true, false, false, false] rfl rfl (by kernel_rfl) (by decide) (fun K hK => ?_)
  refine goes_ Try.func24 (by kernel_rfl) rfl #[.agg #[.int .i64 2, .int .i64 0, .slice (some ⟨wc.heap.size, 0, none⟩) 2 2], .agg #[.int .i64 3, .int .i64 0, .slice (some ⟨wc.heap.size + 2, 0, none⟩) 2 2]] (by rfl) rfl rfl (by simp only [List.map_toArray, List.map_cons, List.map_nil]; rfl) ?_
  with_reducible refine (same2 2 x y (some ⟨wc.heap.size, 0, none⟩) _ 3 (some ⟨wc.heap.size + 2, 0, none⟩) false FSa.out HP.out HG.out).mono ?_
  rintro e w_ ⟨rfl, hb_⟩
  refine ⟨_, rfl, ?_⟩
  have HB := Aside0.mk (below_step HB.out hb_)
  have X1 := Aside0.mk (blk_below X1.out hb_)
  have X2 := Aside0.mk (blk_below X2.out hb_)
  have HP := Aside0.mk (Kd.C_below HP.out hb_)
  have P2 := Aside0.mk (blk_below P2.out hb_)
  have HG := Aside0.mk (Kd.C_below HG.out hb_)
  have P4 := Aside0.mk (blk_below P4.out hb_)
  clear hb_
  clear m0 m1 m2 i0 i1 i2 m3 m4 m5 i3 i4 i5
  obtain ⟨⟨m0, m1, m2⟩, i0, i1, i2⟩ := cells3 P2.out
  obtain ⟨⟨m3, m4, m5⟩, i3, i4, i5⟩ := cells3 P4.out
  refine hK.out _ _ ⟨m0, m1, m2, m3, m4, m5⟩ (fun hHeld => ?_)
  clear hK K
  refine norm_ (a' := ?_) ?_ ?_
  rotate_left
  · show Act.put _ (some 85) _ = _
    simp only [Act.put, List.setIfInBounds_toArray, List.set_cons_zero, List.set_cons_succ, i64_w, i32_w]
    rfl
  refine pure_ (i := 35) (N := some 86) (v := ?_) (a' := ?_) #[true, true, true, true, true, true, true, true, true, true, true, true, true, true, true, true, true, true, true, true, true, true, true, true, true, true, true, true, true, true, true, true, true, true, true, true, false, false] rfl rfl (by kernel_rfl) (fun _ _ _ h => h) (Or.inl ⟨by rfl, ?_⟩) ?_ ?_
  rotate_left
  · intro w'
    go_simp
    with_reducible rfl
  rotate_left
  · simp only [Act.put, List.setIfInBounds_toArray, List.set_cons_zero, List.set_cons_succ, i64_w, i32_w]
    rfl
  refine pure_ (i := 36) (N := some 87) (v := ?_) (a' := ?_) #[true, true, true, true, true, true, true, true, true, true, true, true, true, true, true, true, true, true, true, true, true, true, true, true, true, true, true, true, true, true, true, true, true, true, true, true, true, false] rfl rfl (by kernel_rfl) (fun _ _ _ h => h) (Or.inl ⟨by rfl, ?_⟩) ?_ ?_
  rotate_left
  · intro w'
    go_simp
    with_reducible rfl
  rotate_left
  · simp only [Act.put, List.setIfInBounds_toArray, List.set_cons_zero, List.set_cons_succ, i64_w, i32_w]
    rfl
  refine pure_ (i := 37) (N := some 4) (v := ?_) (a' := ?_) #[true, true, true, true, true, true, true, true, true, true, true, true, true, true, true, true, true, true, true, true, true, true, true, true, true, true, true, true, true, true, true, true, true, true, true, true, true, true] rfl rfl (by kernel_rfl) (fun _ _ _ h => h) (Or.inl ⟨by rfl, ?_⟩) ?_ ?_
  rotate_left
  · intro w'
    go_simp
    with_reducible rfl
  rotate_left
  · simp only [Act.put, List.setIfInBounds_toArray, List.set_cons_zero, List.set_cons_succ, i64_w, i32_w]
    rfl
  refine done_ (by kernel_rfl) ?_

  all_goals go_wp2
  all_goals (try go_ret)
  all_goals first
    | exact ⟨rfl, HB.out⟩
    | (trace_state; sorry)
set_option maxRecDepth 100000 in
set_option maxHeartbeats 16000000 in
theorem pair_tf (x y : S24) (A B : Option Addr) (c d : Nat) (w : World) (hx : Kd.C k24 w A x.f2.length x.f2) (hcx : x.f2.length ≤ c) (hy : Kd.C k24 w B y.f2.length y.f2) (hcy : y.f2.length ≤ d) (q1 q2 : Nat) (r1 r2 n1 n2 d1 d2 m n dd : Int) (hFSx : term_Size.f x.f0 x.f1 x.f2 = some n1) (hFSy : term_Size.f y.f0 y.f1 y.f2 = some n2) (hFDx : term_Depth.f x.f0 x.f1 x.f2 = some d1) (hFDy : term_Depth.f y.f0 y.f1 y.f2 = some d2) (hFMx : term_May.f x.f0 x.f1 x.f2 = some true) (hFMy : term_May.f y.f0 y.f1 y.f2 = some false) (hFSp : term_Size.f 2 0 [x, y] = some n) (hFDg : term_Depth.f 3 0 [x, y] = some dd) (hFMp : term_May.f 2 0 [x, y] = some false) (hFMg : term_May.f 3 0 [x, y] = some false) (hFSa : term_Same.f 2 0 [x, y] 3 0 [x, y] = some false) (hFN1 : pelicanref05_Nodes.f q1 x.f0 x.f1 x.f2 60 15 = some r1) (hFN2 : pelicanref05_Nodes.f q2 y.f0 y.f1 y.f2 60 15 = some r2)
    (e1 : r1 ≤ 60) (e2 : r2 ≤ 60) (e3 : IntKind.i64.wrap (n1 + n2) = m) (e4 : IntKind.i64.wrap (m + 1) = n) (e5 : IntKind.i64.wrap (1 + max d1 d2) = dd)  :
    Calls Try.prog 6 #[.agg #[.int .i64 x.f0, .int .i64 x.f1, .slice A x.f2.length c], .agg #[.int .i64 y.f0, .int .i64 y.f1, .slice B y.f2.length d]] w fun e w' => e = .returned (.bool true) ∧ Below w.heap.size w w' := by
  have HX := Aside0.mk hx
  have HY := Aside0.mk hy
  have HCX := Aside0.mk hcx
  have HCY := Aside0.mk hcy
  clear hx hy hcx hcy
  have FSx := Aside0.mk hFSx
  have FSy := Aside0.mk hFSy
  have FDx := Aside0.mk hFDx
  have FDy := Aside0.mk hFDy
  have FMx := Aside0.mk hFMx
  have FMy := Aside0.mk hFMy
  have FSp := Aside0.mk hFSp
  have FDg := Aside0.mk hFDg
  have FMp := Aside0.mk hFMp
  have FMg := Aside0.mk hFMg
  have FSa := Aside0.mk hFSa
  have FN1 := Aside0.mk hFN1
  have FN2 := Aside0.mk hFN2
  clear hFSx hFSy hFDx hFDy hFMx hFMy hFSp hFDg hFMp hFMg hFSa hFN1 hFN2
  go_enter Try.func6, Try.ntmps6
  go_wp2_with (first
    | (go_at_call 9; (with_reducible refine (pelicanlaw05_awake.calls true _ rfl).mono ?_); rintro e w_ ⟨rfl, hb_⟩; obtain ⟨t1_, t2_⟩ := two_allocs' w (.cells #[.int .i64 x.f0, .int .i64 x.f1, .slice A x.f2.length c] 24 (0, 0)) (.cells #[.int .i64 y.f0, .int .i64 y.f1, .slice B y.f2.length d] 24 (0, 0)); have X1 := Aside0.mk (blk_below t1_ hb_); have X2 := Aside0.mk (blk_below t2_ hb_); have HB := Aside0.mk (below_step (below_alloc (below_alloc (Below.refl w.heap.size w) (.cells #[.int .i64 x.f0, .int .i64 x.f1, .slice A x.f2.length c] 24 (0, 0))) (.cells #[.int .i64 y.f0, .int .i64 y.f1, .slice B y.f2.length d] 24 (0, 0))) hb_); clear t1_ t2_ hb_; obtain ⟨⟨k0, k1, k2⟩, j0, j1, j2⟩ := cells3 X1.out; obtain ⟨⟨k3, k4, k5⟩, j3, j4, j5⟩ := cells3 X2.out)
    | (go_at_call 25; (with_reducible refine (pelicanref05_Nodes.calls q1 x.f0 x.f1 A c x.f2 60 15 r1 _ (Kd.C_below HX.out HB.out) HCX.out FN1.out).mono ?_); rintro e w_ ⟨rfl, hb_⟩; clear k0 k1 k2 j0 j1 j2 k3 k4 k5 j3 j4 j5; have HB := Aside0.mk (below_step HB.out hb_); have X1 := Aside0.mk (blk_below X1.out hb_); have X2 := Aside0.mk (blk_below X2.out hb_); obtain ⟨⟨k0, k1, k2⟩, j0, j1, j2⟩ := cells3 X1.out; obtain ⟨⟨k3, k4, k5⟩, j3, j4, j5⟩ := cells3 X2.out; clear hb_)
    | (go_at_call 25; (with_reducible refine (pelicanref05_Nodes.calls q2 y.f0 y.f1 B d y.f2 60 15 r2 _ (Kd.C_below HY.out HB.out) HCY.out FN2.out).mono ?_); rintro e w_ ⟨rfl, hb_⟩; clear k0 k1 k2 j0 j1 j2 k3 k4 k5 j3 j4 j5; have HB := Aside0.mk (below_step HB.out hb_); have X1 := Aside0.mk (blk_below X1.out hb_); have X2 := Aside0.mk (blk_below X2.out hb_); obtain ⟨⟨k0, k1, k2⟩, j0, j1, j2⟩ := cells3 X1.out; obtain ⟨⟨k3, k4, k5⟩, j3, j4, j5⟩ := cells3 X2.out; clear hb_))
  go_cut [6] (fun v_ wc => v_ = .int .i64 n ∧ Aside0 (wc.heap[w.heap.size]? = some (.cells #[.int .i64 x.f0, .int .i64 x.f1, .slice A x.f2.length c] 24 (0, 0))) ∧ Aside0 (wc.heap[w.heap.size + 1]? = some (.cells #[.int .i64 y.f0, .int .i64 y.f1, .slice B y.f2.length d] 24 (0, 0))) ∧ Aside0 (Below w.heap.size w wc))
  case first =>
    have HB := Aside0.mk (below_drew HB.out)
    have X1 := Aside0.mk (blk_drew X1.out)
    have X2 := Aside0.mk (blk_drew X2.out)
    clear k0 k1 k2 j0 j1 j2 k3 k4 k5 j3 j4 j5
    obtain ⟨⟨k0, k1, k2⟩, j0, j1, j2⟩ := cells3 X1.out; obtain ⟨⟨k3, k4, k5⟩, j3, j4, j5⟩ := cells3 X2.out
    go_region_held3 (fun w' => w'.cell? ⟨w.heap.size, 0, none⟩ = some (.int .i64 x.f0) ∧ w'.cell? ⟨w.heap.size, 1, none⟩ = some (.int .i64 x.f1) ∧ w'.cell? ⟨w.heap.size, 2, none⟩ = some (.slice A x.f2.length c) ∧ w'.cell? ⟨w.heap.size + 1, 0, none⟩ = some (.int .i64 y.f0) ∧ w'.cell? ⟨w.heap.size + 1, 1, none⟩ = some (.int .i64 y.f1) ∧ w'.cell? ⟨w.heap.size + 1, 2, none⟩ = some (.slice B y.f2.length d)) (first | exact ⟨k0, k1, k2, k3, k4, k5⟩ | go_keep)
      (first
        | (go_at_call 19; (with_reducible refine (term_Size.calls x.f0 x.f1 A c x.f2 n1 _ (Kd.C_below HX.out HB.out) HCX.out FSx.out).mono ?_); rintro e w_ ⟨rfl, hb_⟩; clear k0 k1 k2 j0 j1 j2 k3 k4 k5 j3 j4 j5; have HB := Aside0.mk (below_step HB.out hb_); have X1 := Aside0.mk (blk_below X1.out hb_); have X2 := Aside0.mk (blk_below X2.out hb_); obtain ⟨⟨k0, k1, k2⟩, j0, j1, j2⟩ := cells3 X1.out; obtain ⟨⟨k3, k4, k5⟩, j3, j4, j5⟩ := cells3 X2.out; clear hb_)
        | (go_at_call 19; (with_reducible refine (term_Size.calls y.f0 y.f1 B d y.f2 n2 _ (Kd.C_below HY.out HB.out) HCY.out FSy.out).mono ?_); rintro e w_ ⟨rfl, hb_⟩; clear k0 k1 k2 j0 j1 j2 k3 k4 k5 j3 j4 j5; have HB := Aside0.mk (below_step HB.out hb_); have X1 := Aside0.mk (blk_below X1.out hb_); have X2 := Aside0.mk (blk_below X2.out hb_); obtain ⟨⟨k0, k1, k2⟩, j0, j1, j2⟩ := cells3 X1.out; obtain ⟨⟨k3, k4, k5⟩, j3, j4, j5⟩ := cells3 X2.out; clear hb_))
    all_goals go_wp2
    all_goals go_meet
    all_goals (case rel => exact ⟨by first | rfl | (have z : IntKind.i64.wrap (1 + d2) = dd := (by rw [← e5, Int.max_eq_right (by omega)]); rw [z]) | (have z : IntKind.i64.wrap (1 + d1) = dd := (by rw [← e5, Int.max_eq_left (by omega)]); rw [z]), X1, X2, HB⟩)
  case rest =>
  obtain ⟨rfl, X1, X2, HB⟩ := hcut
  obtain ⟨⟨k0, k1, k2⟩, j0, j1, j2⟩ := cells3 X1.out; obtain ⟨⟨k3, k4, k5⟩, j3, j4, j5⟩ := cells3 X2.out
  go_wp2
  go_cut [7] (fun v_ wc => v_ = .int .i64 dd ∧ Aside0 (wc.heap[w.heap.size]? = some (.cells #[.int .i64 x.f0, .int .i64 x.f1, .slice A x.f2.length c] 24 (0, 0))) ∧ Aside0 (wc.heap[w.heap.size + 1]? = some (.cells #[.int .i64 y.f0, .int .i64 y.f1, .slice B y.f2.length d] 24 (0, 0))) ∧ Aside0 (Below w.heap.size w wc))
  case first =>
    have HB := Aside0.mk (below_drew HB.out)
    have X1 := Aside0.mk (blk_drew X1.out)
    have X2 := Aside0.mk (blk_drew X2.out)
    clear k0 k1 k2 j0 j1 j2 k3 k4 k5 j3 j4 j5
    obtain ⟨⟨k0, k1, k2⟩, j0, j1, j2⟩ := cells3 X1.out; obtain ⟨⟨k3, k4, k5⟩, j3, j4, j5⟩ := cells3 X2.out
    go_region_held3 (fun w' => w'.cell? ⟨w.heap.size, 0, none⟩ = some (.int .i64 x.f0) ∧ w'.cell? ⟨w.heap.size, 1, none⟩ = some (.int .i64 x.f1) ∧ w'.cell? ⟨w.heap.size, 2, none⟩ = some (.slice A x.f2.length c) ∧ w'.cell? ⟨w.heap.size + 1, 0, none⟩ = some (.int .i64 y.f0) ∧ w'.cell? ⟨w.heap.size + 1, 1, none⟩ = some (.int .i64 y.f1) ∧ w'.cell? ⟨w.heap.size + 1, 2, none⟩ = some (.slice B y.f2.length d)) (first | exact ⟨k0, k1, k2, k3, k4, k5⟩ | go_keep)
      (first
        | (go_at_call 21; (with_reducible refine (term_Depth.calls x.f0 x.f1 A c x.f2 d1 _ (Kd.C_below HX.out HB.out) HCX.out FDx.out).mono ?_); rintro e w_ ⟨rfl, hb_⟩; clear k0 k1 k2 j0 j1 j2 k3 k4 k5 j3 j4 j5; have HB := Aside0.mk (below_step HB.out hb_); have X1 := Aside0.mk (blk_below X1.out hb_); have X2 := Aside0.mk (blk_below X2.out hb_); obtain ⟨⟨k0, k1, k2⟩, j0, j1, j2⟩ := cells3 X1.out; obtain ⟨⟨k3, k4, k5⟩, j3, j4, j5⟩ := cells3 X2.out; clear hb_)
        | (go_at_call 21; (with_reducible refine (term_Depth.calls y.f0 y.f1 B d y.f2 d2 _ (Kd.C_below HY.out HB.out) HCY.out FDy.out).mono ?_); rintro e w_ ⟨rfl, hb_⟩; clear k0 k1 k2 j0 j1 j2 k3 k4 k5 j3 j4 j5; have HB := Aside0.mk (below_step HB.out hb_); have X1 := Aside0.mk (blk_below X1.out hb_); have X2 := Aside0.mk (blk_below X2.out hb_); obtain ⟨⟨k0, k1, k2⟩, j0, j1, j2⟩ := cells3 X1.out; obtain ⟨⟨k3, k4, k5⟩, j3, j4, j5⟩ := cells3 X2.out; clear hb_))
    all_goals go_wp2
    all_goals go_meet
    all_goals (case rel => exact ⟨by first | rfl | (have z : IntKind.i64.wrap (1 + d2) = dd := (by rw [← e5, Int.max_eq_right (by omega)]); rw [z]) | (have z : IntKind.i64.wrap (1 + d1) = dd := (by rw [← e5, Int.max_eq_left (by omega)]); rw [z]), X1, X2, HB⟩)
  case rest =>
  obtain ⟨rfl, X1, X2, HB⟩ := hcut
  obtain ⟨⟨k0, k1, k2⟩, j0, j1, j2⟩ := cells3 X1.out; obtain ⟨⟨k3, k4, k5⟩, j3, j4, j5⟩ := cells3 X2.out
  have Y1 := Aside0.mk (blk_alloc (blk_alloc X1.out (.cells #[.int .i64 x.f0, .int .i64 x.f1, .slice A x.f2.length c, .int .i64 y.f0, .int .i64 y.f1, .slice B y.f2.length d] 24 (0, 0))) (.cells #[.int .i64 2, .int .i64 0, .slice (some ⟨wc.heap.size, 0, none⟩) 2 2] 24 (0, 0)))
  have Y2 := Aside0.mk (blk_alloc (blk_alloc X2.out (.cells #[.int .i64 x.f0, .int .i64 x.f1, .slice A x.f2.length c, .int .i64 y.f0, .int .i64 y.f1, .slice B y.f2.length d] 24 (0, 0))) (.cells #[.int .i64 2, .int .i64 0, .slice (some ⟨wc.heap.size, 0, none⟩) 2 2] 24 (0, 0)))
  obtain ⟨⟨l0, l1, l2⟩, o0, o1, o2⟩ := cells3 Y1.out
  obtain ⟨⟨l3, l4, l5⟩, o3, o4, o5⟩ := cells3 Y2.out
  go_upto_region 8 with (fail)
  obtain ⟨P1, P2, P3, P4⟩ := four_allocs wc (.cells #[.int .i64 x.f0, .int .i64 x.f1, .slice A x.f2.length c, .int .i64 y.f0, .int .i64 y.f1, .slice B y.f2.length d] 24 (0, 0)) (.cells #[.int .i64 2, .int .i64 0, .slice (some ⟨wc.heap.size, 0, none⟩) 2 2] 24 (0, 0)) (.cells #[.int .i64 x.f0, .int .i64 x.f1, .slice A x.f2.length c, .int .i64 y.f0, .int .i64 y.f1, .slice B y.f2.length d] 24 (0, 0)) (.cells #[.int .i64 3, .int .i64 0, .slice (some ⟨wc.heap.size + 2, 0, none⟩) 2 2] 24 (0, 0))
  have P1 := Aside0.mk P1
  have P2 := Aside0.mk P2
  have P3 := Aside0.mk P3
  have P4 := Aside0.mk P4
  have X1 := Aside0.mk (blk_alloc (blk_alloc Y1.out (.cells #[.int .i64 x.f0, .int .i64 x.f1, .slice A x.f2.length c, .int .i64 y.f0, .int .i64 y.f1, .slice B y.f2.length d] 24 (0, 0))) (.cells #[.int .i64 3, .int .i64 0, .slice (some ⟨wc.heap.size + 2, 0, none⟩) 2 2] 24 (0, 0)))
  have X2 := Aside0.mk (blk_alloc (blk_alloc Y2.out (.cells #[.int .i64 x.f0, .int .i64 x.f1, .slice A x.f2.length c, .int .i64 y.f0, .int .i64 y.f1, .slice B y.f2.length d] 24 (0, 0))) (.cells #[.int .i64 3, .int .i64 0, .slice (some ⟨wc.heap.size + 2, 0, none⟩) 2 2] 24 (0, 0)))
  have HB := Aside0.mk (below_alloc (below_alloc (below_alloc (below_alloc HB.out (.cells #[.int .i64 x.f0, .int .i64 x.f1, .slice A x.f2.length c, .int .i64 y.f0, .int .i64 y.f1, .slice B y.f2.length d] 24 (0, 0))) (.cells #[.int .i64 2, .int .i64 0, .slice (some ⟨wc.heap.size, 0, none⟩) 2 2] 24 (0, 0))) (.cells #[.int .i64 x.f0, .int .i64 x.f1, .slice A x.f2.length c, .int .i64 y.f0, .int .i64 y.f1, .slice B y.f2.length d] 24 (0, 0))) (.cells #[.int .i64 3, .int .i64 0, .slice (some ⟨wc.heap.size + 2, 0, none⟩) 2 2] 24 (0, 0)))
  clear l0 l1 l2 o0 o1 o2 l3 l4 l5 o3 o4 o5
  clear k0 k1 k2 j0 j1 j2 k3 k4 k5 j3 j4 j5
  obtain ⟨W4, hW4⟩ : ∃ W4, W4 = ((((wc.alloc (.cells #[.int .i64 x.f0, .int .i64 x.f1, .slice A x.f2.length c, .int .i64 y.f0, .int .i64 y.f1, .slice B y.f2.length d] 24 (0, 0))).alloc (.cells #[.int .i64 2, .int .i64 0, .slice (some ⟨wc.heap.size, 0, none⟩) 2 2] 24 (0, 0))).alloc (.cells #[.int .i64 x.f0, .int .i64 x.f1, .slice A x.f2.length c, .int .i64 y.f0, .int .i64 y.f1, .slice B y.f2.length d] 24 (0, 0))).alloc (.cells #[.int .i64 3, .int .i64 0, .slice (some ⟨wc.heap.size + 2, 0, none⟩) 2 2] 24 (0, 0))) := ⟨_, rfl⟩
  rw [← hW4]
  rw [← hW4] at P1 P2 P3 P4 X1 X2 HB
  clear hW4
  have HP := Aside0.mk (C_two P1.out (k24_mk _ x HCX.out (Kd.C_below HX.out HB.out)) (k24_mk _ y HCY.out (Kd.C_below HY.out HB.out)))
  have HG := Aside0.mk (C_two P3.out (k24_mk _ x HCX.out (Kd.C_below HX.out HB.out)) (k24_mk _ y HCY.out (Kd.C_below HY.out HB.out)))
  obtain ⟨⟨k0, k1, k2⟩, j0, j1, j2⟩ := cells3 X1.out; obtain ⟨⟨k3, k4, k5⟩, j3, j4, j5⟩ := cells3 X2.out
  go_wp2_with (first
    | (go_at_call 23; (with_reducible refine (term_May.calls x.f0 x.f1 A c x.f2 true _ (Kd.C_below HX.out HB.out) HCX.out FMx.out).mono ?_); rintro e w_ ⟨rfl, hb_⟩; have HB := Aside0.mk (below_step HB.out hb_); have X1 := Aside0.mk (blk_below X1.out hb_); have X2 := Aside0.mk (blk_below X2.out hb_); have HP := Aside0.mk (Kd.C_below HP.out hb_); have P2 := Aside0.mk (blk_below P2.out hb_); have HG := Aside0.mk (Kd.C_below HG.out hb_); have P4 := Aside0.mk (blk_below P4.out hb_); clear hb_; clear k0 k1 k2 j0 j1 j2 k3 k4 k5 j3 j4 j5; obtain ⟨⟨k0, k1, k2⟩, j0, j1, j2⟩ := cells3 X1.out; obtain ⟨⟨k3, k4, k5⟩, j3, j4, j5⟩ := cells3 X2.out)
    | (go_at_call 23; (with_reducible refine (term_May.calls y.f0 y.f1 B d y.f2 false _ (Kd.C_below HY.out HB.out) HCY.out FMy.out).mono ?_); rintro e w_ ⟨rfl, hb_⟩; have HB := Aside0.mk (below_step HB.out hb_); have X1 := Aside0.mk (blk_below X1.out hb_); have X2 := Aside0.mk (blk_below X2.out hb_); have HP := Aside0.mk (Kd.C_below HP.out hb_); have P2 := Aside0.mk (blk_below P2.out hb_); have HG := Aside0.mk (Kd.C_below HG.out hb_); have P4 := Aside0.mk (blk_below P4.out hb_); clear hb_; clear k0 k1 k2 j0 j1 j2 k3 k4 k5 j3 j4 j5; obtain ⟨⟨k0, k1, k2⟩, j0, j1, j2⟩ := cells3 X1.out; obtain ⟨⟨k3, k4, k5⟩, j3, j4, j5⟩ := cells3 X2.out))
  have HB := Aside0.mk (below_drew HB.out)
  have X1 := Aside0.mk (blk_drew X1.out)
  have X2 := Aside0.mk (blk_drew X2.out)
  have HP := Aside0.mk (Kd.C_drew HP.out)
  have P2 := Aside0.mk (blk_drew P2.out)
  have HG := Aside0.mk (Kd.C_drew HG.out)
  have P4 := Aside0.mk (blk_drew P4.out)
  obtain ⟨⟨m0, m1, m2⟩, i0, i1, i2⟩ := cells3 P2.out; obtain ⟨⟨m3, m4, m5⟩, i3, i4, i5⟩ := cells3 P4.out
  refine start_ (n := 38) (S := fun w' => w'.cell? ⟨wc.heap.size + 1, 0, none⟩ = some (.int .i64 2) ∧ w'.cell? ⟨wc.heap.size + 1, 1, none⟩ = some (.int .i64 0) ∧ w'.cell? ⟨wc.heap.size + 1, 2, none⟩ = some (.slice (some ⟨wc.heap.size, 0, none⟩) 2 2) ∧ w'.cell? ⟨wc.heap.size + 3, 0, none⟩ = some (.int .i64 3) ∧ w'.cell? ⟨wc.heap.size + 3, 1, none⟩ = some (.int .i64 0) ∧ w'.cell? ⟨wc.heap.size + 3, 2, none⟩ = some (.slice (some ⟨wc.heap.size + 2, 0, none⟩) 2 2)) (ds := []) #[false, false, false, false, false, false, false, false, false, false, false, false, false, false, false, false, false, false, false, false, false, false, false, false, false, false, false, false, false, false, false, false, false, false, false, false, false, false] (by kernel_rfl) rfl rfl ⟨m0, m1, m2, m3, m4, m5⟩ (fun hHeld => ?_)
  refine pure_ (i := 2) (N := some 53) (v := ?_) (a' := ?_) #[false, false, true, false, false, false, false, false, false, false, false, false, false, false, false, false, false, false, false, false, false, false, false, false, false, false, false, false, false, false, false, false, false, false, false, false, false, false] rfl rfl (by kernel_rfl) (fun _ _ _ h => h) (Or.inl ⟨by rfl, ?_⟩) ?_ ?_
  rotate_left
  · intro w'
    go_simp
    with_reducible rfl
  rotate_left
  · simp only [Act.put, List.setIfInBounds_toArray, List.set_cons_zero, List.set_cons_succ, i64_w, i32_w]
    rfl
  refine take_ (i := 0) (N := some 51) (v := ?_) (a' := ?_) #[true, false, true, false, false, false, false, false, false, false, false, false, false, false, false, false, false, false, false, false, false, false, false, false, false, false, false, false, false, false, false, false, false, false, false, false, false, false] rfl rfl (by kernel_rfl) (fun _ _ _ h => h) (Or.inl ⟨by rfl, ?_⟩) hHeld ?_ ?_
  rotate_left
  · rintro w' ⟨s0, s1, s2, s3, s4, s5⟩
    go_simp
    with_reducible rfl
  rotate_left
  · simp only [Act.put, List.setIfInBounds_toArray, List.set_cons_zero, List.set_cons_succ, i64_w, i32_w]
    rfl
  refine one_ (i := 1) (N := some 52) #[true, true, true, false, false, false, false, false, false, false, false, false, false, false, false, false, false, false, false, false, false, false, false, false, false, false, false, false, false, false, false, false, false, false, false, false, false, false] rfl rfl (by kernel_rfl) (by decide) (fun K hK => ?_)
  refine goes_ Try.func19 (by kernel_rfl) rfl #[.agg #[.int .i64 2, .int .i64 0, .slice (some ⟨wc.heap.size, 0, none⟩) 2 2]] (by rfl) rfl rfl (by simp only [List.map_toArray, List.map_cons, List.map_nil]; rfl) ?_
  with_reducible refine (size2 2 x y (some ⟨wc.heap.size, 0, none⟩) _ n FSp.out HP.out).mono ?_
  rintro e w_ ⟨rfl, hb_⟩
  refine ⟨_, rfl, ?_⟩
  have HB := Aside0.mk (below_step HB.out hb_)
  have X1 := Aside0.mk (blk_below X1.out hb_)
  have X2 := Aside0.mk (blk_below X2.out hb_)
  have HP := Aside0.mk (Kd.C_below HP.out hb_)
  have P2 := Aside0.mk (blk_below P2.out hb_)
  have HG := Aside0.mk (Kd.C_below HG.out hb_)
  have P4 := Aside0.mk (blk_below P4.out hb_)
  clear hb_
  clear m0 m1 m2 i0 i1 i2 m3 m4 m5 i3 i4 i5
  obtain ⟨⟨m0, m1, m2⟩, i0, i1, i2⟩ := cells3 P2.out
  obtain ⟨⟨m3, m4, m5⟩, i3, i4, i5⟩ := cells3 P4.out
  refine hK.out _ _ ⟨m0, m1, m2, m3, m4, m5⟩ (fun hHeld => ?_)
  clear hK K
  refine norm_ (a' := ?_) ?_ ?_
  rotate_left
  · show Act.put _ (some 52) _ = _
    simp only [Act.put, List.setIfInBounds_toArray, List.set_cons_zero, List.set_cons_succ, i64_w, i32_w]
    rfl
  refine pure_ (i := 3) (N := some 54) (v := ?_) (a' := ?_) #[true, true, true, true, false, false, false, false, false, false, false, false, false, false, false, false, false, false, false, false, false, false, false, false, false, false, false, false, false, false, false, false, false, false, false, false, false, false] rfl rfl (by kernel_rfl) (fun _ _ _ h => h) (Or.inl ⟨by rfl, ?_⟩) ?_ ?_
  rotate_left
  · intro w'
    go_simp
    with_reducible rfl
  rotate_left
  · simp only [Act.put, List.setIfInBounds_toArray, List.set_cons_zero, List.set_cons_succ, i64_w, i32_w]
    rfl
  refine pure_ (i := 4) (N := some 55) (v := ?_) (a' := ?_) #[true, true, true, true, true, false, false, false, false, false, false, false, false, false, false, false, false, false, false, false, false, false, false, false, false, false, false, false, false, false, false, false, false, false, false, false, false, false] rfl rfl (by kernel_rfl) (fun _ _ _ h => h) (Or.inl ⟨by rfl, ?_⟩) ?_ ?_
  rotate_left
  · intro w'
    go_simp
    with_reducible rfl
  rotate_left
  · simp only [Act.put, List.setIfInBounds_toArray, List.set_cons_zero, List.set_cons_succ, i64_w, i32_w]
    rfl
  refine pure_ (i := 7) (N := some 58) (v := ?_) (a' := ?_) #[true, true, true, true, true, false, false, true, false, false, false, false, false, false, false, false, false, false, false, false, false, false, false, false, false, false, false, false, false, false, false, false, false, false, false, false, false, false] rfl rfl (by kernel_rfl) (fun _ _ _ h => h) (Or.inl ⟨by rfl, ?_⟩) ?_ ?_
  rotate_left
  · intro w'
    go_simp
    with_reducible rfl
  rotate_left
  · simp only [Act.put, List.setIfInBounds_toArray, List.set_cons_zero, List.set_cons_succ, i64_w, i32_w]
    rfl
  refine take_ (i := 5) (N := some 56) (v := ?_) (a' := ?_) #[true, true, true, true, true, true, false, true, false, false, false, false, false, false, false, false, false, false, false, false, false, false, false, false, false, false, false, false, false, false, false, false, false, false, false, false, false, false] rfl rfl (by kernel_rfl) (fun _ _ _ h => h) (Or.inl ⟨by rfl, ?_⟩) hHeld ?_ ?_
  rotate_left
  · rintro w' ⟨s0, s1, s2, s3, s4, s5⟩
    go_simp
    with_reducible rfl
  rotate_left
  · simp only [Act.put, List.setIfInBounds_toArray, List.set_cons_zero, List.set_cons_succ, i64_w, i32_w]
    rfl
  refine one_ (i := 6) (N := some 57) #[true, true, true, true, true, true, true, true, false, false, false, false, false, false, false, false, false, false, false, false, false, false, false, false, false, false, false, false, false, false, false, false, false, false, false, false, false, false] rfl rfl (by kernel_rfl) (by decide) (fun K hK => ?_)
  refine goes_ Try.func21 (by kernel_rfl) rfl #[.agg #[.int .i64 3, .int .i64 0, .slice (some ⟨wc.heap.size + 2, 0, none⟩) 2 2]] (by rfl) rfl rfl (by simp only [List.map_toArray, List.map_cons, List.map_nil]; rfl) ?_
  with_reducible refine (depth2 3 x y (some ⟨wc.heap.size + 2, 0, none⟩) _ dd FDg.out HG.out).mono ?_
  rintro e w_ ⟨rfl, hb_⟩
  refine ⟨_, rfl, ?_⟩
  have HB := Aside0.mk (below_step HB.out hb_)
  have X1 := Aside0.mk (blk_below X1.out hb_)
  have X2 := Aside0.mk (blk_below X2.out hb_)
  have HP := Aside0.mk (Kd.C_below HP.out hb_)
  have P2 := Aside0.mk (blk_below P2.out hb_)
  have HG := Aside0.mk (Kd.C_below HG.out hb_)
  have P4 := Aside0.mk (blk_below P4.out hb_)
  clear hb_
  clear m0 m1 m2 i0 i1 i2 m3 m4 m5 i3 i4 i5
  obtain ⟨⟨m0, m1, m2⟩, i0, i1, i2⟩ := cells3 P2.out
  obtain ⟨⟨m3, m4, m5⟩, i3, i4, i5⟩ := cells3 P4.out
  refine hK.out _ _ ⟨m0, m1, m2, m3, m4, m5⟩ (fun hHeld => ?_)
  clear hK K
  refine norm_ (a' := ?_) ?_ ?_
  rotate_left
  · show Act.put _ (some 57) _ = _
    simp only [Act.put, List.setIfInBounds_toArray, List.set_cons_zero, List.set_cons_succ, i64_w, i32_w]
    rfl
  refine pure_ (i := 8) (N := some 59) (v := ?_) (a' := ?_) #[true, true, true, true, true, true, true, true, true, false, false, false, false, false, false, false, false, false, false, false, false, false, false, false, false, false, false, false, false, false, false, false, false, false, false, false, false, false] rfl rfl (by kernel_rfl) (fun _ _ _ h => h) (Or.inl ⟨by rfl, ?_⟩) ?_ ?_
  rotate_left
  · intro w'
    go_simp
    with_reducible rfl
  rotate_left
  · simp only [Act.put, List.setIfInBounds_toArray, List.set_cons_zero, List.set_cons_succ, i64_w, i32_w]
    rfl
  refine pure_ (i := 9) (N := some 60) (v := ?_) (a' := ?_) #[true, true, true, true, true, true, true, true, true, true, false, false, false, false, false, false, false, false, false, false, false, false, false, false, false, false, false, false, false, false, false, false, false, false, false, false, false, false] rfl rfl (by kernel_rfl) (fun _ _ _ h => h) (Or.inl ⟨by rfl, ?_⟩) ?_ ?_
  rotate_left
  · intro w'
    go_simp
    with_reducible rfl
  rotate_left
  · simp only [Act.put, List.setIfInBounds_toArray, List.set_cons_zero, List.set_cons_succ, i64_w, i32_w]
    rfl
  refine pure_ (i := 10) (N := some 61) (v := ?_) (a' := ?_) #[true, true, true, true, true, true, true, true, true, true, true, false, false, false, false, false, false, false, false, false, false, false, false, false, false, false, false, false, false, false, false, false, false, false, false, false, false, false] rfl rfl (by kernel_rfl) (fun _ _ _ h => h) (Or.inl ⟨by rfl, ?_⟩) ?_ ?_
  rotate_left
  · intro w'
    go_simp
    with_reducible rfl
  rotate_left
  · simp only [Act.put, List.setIfInBounds_toArray, List.set_cons_zero, List.set_cons_succ, i64_w, i32_w]
    rfl
  refine pure_ (i := 13) (N := some 64) (v := ?_) (a' := ?_) #[true, true, true, true, true, true, true, true, true, true, true, false, false, true, false, false, false, false, false, false, false, false, false, false, false, false, false, false, false, false, false, false, false, false, false, false, false, false] rfl rfl (by kernel_rfl) (fun _ _ _ h => h) (Or.inl ⟨by rfl, ?_⟩) ?_ ?_
  rotate_left
  · intro w'
    go_simp
    with_reducible rfl
  rotate_left
  · simp only [Act.put, List.setIfInBounds_toArray, List.set_cons_zero, List.set_cons_succ, i64_w, i32_w]
    rfl
  refine take_ (i := 11) (N := some 62) (v := ?_) (a' := ?_) #[true, true, true, true, true, true, true, true, true, true, true, true, false, true, false, false, false, false, false, false, false, false, false, false, false, false, false, false, false, false, false, false, false, false, false, false, false, false] rfl rfl (by kernel_rfl) (fun _ _ _ h => h) (Or.inl ⟨by rfl, ?_⟩) hHeld ?_ ?_
  rotate_left
  · rintro w' ⟨s0, s1, s2, s3, s4, s5⟩
    go_simp
    with_reducible rfl
  rotate_left
  · simp only [Act.put, List.setIfInBounds_toArray, List.set_cons_zero, List.set_cons_succ, i64_w, i32_w]
    rfl
  refine one_ (i := 12) (N := some 63) #[true, true, true, true, true, true, true, true, true, true, true, true, true, true, false, false, false, false, false, false, false, false, false, false, false, false, false, false, false, false, false, false, false, false, false, false, false, false] rfl rfl (by kernel_rfl) (by decide) (fun K hK => ?_)
  refine goes_ Try.func23 (by kernel_rfl) rfl #[.agg #[.int .i64 2, .int .i64 0, .slice (some ⟨wc.heap.size, 0, none⟩) 2 2]] (by rfl) rfl rfl (by simp only [List.map_toArray, List.map_cons, List.map_nil]; rfl) ?_
  with_reducible refine (may2 2 x y (some ⟨wc.heap.size, 0, none⟩) _ false FMp.out HP.out).mono ?_
  rintro e w_ ⟨rfl, hb_⟩
  refine ⟨_, rfl, ?_⟩
  have HB := Aside0.mk (below_step HB.out hb_)
  have X1 := Aside0.mk (blk_below X1.out hb_)
  have X2 := Aside0.mk (blk_below X2.out hb_)
  have HP := Aside0.mk (Kd.C_below HP.out hb_)
  have P2 := Aside0.mk (blk_below P2.out hb_)
  have HG := Aside0.mk (Kd.C_below HG.out hb_)
  have P4 := Aside0.mk (blk_below P4.out hb_)
  clear hb_
  clear m0 m1 m2 i0 i1 i2 m3 m4 m5 i3 i4 i5
  obtain ⟨⟨m0, m1, m2⟩, i0, i1, i2⟩ := cells3 P2.out
  obtain ⟨⟨m3, m4, m5⟩, i3, i4, i5⟩ := cells3 P4.out
  refine hK.out _ _ ⟨m0, m1, m2, m3, m4, m5⟩ (fun hHeld => ?_)
  clear hK K
  refine norm_ (a' := ?_) ?_ ?_
  rotate_left
  · show Act.put _ (some 63) _ = _
    simp only [Act.put, List.setIfInBounds_toArray, List.set_cons_zero, List.set_cons_succ, i64_w, i32_w]
    rfl
  refine pure_ (i := 14) (N := some 65) (v := ?_) (a' := ?_) #[true, true, true, true, true, true, true, true, true, true, true, true, true, true, true, false, false, false, false, false, false, false, false, false, false, false, false, false, false, false, false, false, false, false, false, false, false, false] rfl rfl (by kernel_rfl) (fun _ _ _ h => h) (Or.inl ⟨by rfl, ?_⟩) ?_ ?_
  rotate_left
  · intro w'
    go_simp
    with_reducible rfl
  rotate_left
  · simp only [Act.put, List.setIfInBounds_toArray, List.set_cons_zero, List.set_cons_succ, i64_w, i32_w]
    rfl
  refine pure_ (i := 15) (N := some 66) (v := undef) (a' := ?_) #[true, true, true, true, true, true, true, true, true, true, true, true, true, true, true, true, false, false, false, false, false, false, false, false, false, false, false, false, false, false, false, false, false, false, false, false, false, false] rfl rfl (by kernel_rfl) (fun _ _ _ h => h) (Or.inr ⟨by rfl, rfl⟩) ?_ ?_
  rotate_left
  · simp only [Act.put, List.setIfInBounds_toArray, List.set_cons_zero, List.set_cons_succ, i64_w, i32_w]
    rfl
  refine pure_ (i := 16) (N := some 67) (v := undef) (a' := ?_) #[true, true, true, true, true, true, true, true, true, true, true, true, true, true, true, true, true, false, false, false, false, false, false, false, false, false, false, false, false, false, false, false, false, false, false, false, false, false] rfl rfl (by kernel_rfl) (fun _ _ _ h => h) (Or.inr ⟨by rfl, rfl⟩) ?_ ?_
  rotate_left
  · simp only [Act.put, List.setIfInBounds_toArray, List.set_cons_zero, List.set_cons_succ, i64_w, i32_w]
    rfl
  refine pure_ (i := 17) (N := some 68) (v := ?_) (a' := ?_) #[true, true, true, true, true, true, true, true, true, true, true, true, true, true, true, true, true, true, false, false, false, false, false, false, false, false, false, false, false, false, false, false, false, false, false, false, false, false] rfl rfl (by kernel_rfl) (fun _ _ _ h => h) (Or.inl ⟨by rfl, ?_⟩) ?_ ?_
  rotate_left
  · intro w'
    go_simp
    with_reducible rfl
  rotate_left
  · simp only [Act.put, List.setIfInBounds_toArray, List.set_cons_zero, List.set_cons_succ, i64_w, i32_w]
    rfl
  refine pure_ (i := 18) (N := some 69) (v := ?_) (a' := ?_) #[true, true, true, true, true, true, true, true, true, true, true, true, true, true, true, true, true, true, true, false, false, false, false, false, false, false, false, false, false, false, false, false, false, false, false, false, false, false] rfl rfl (by kernel_rfl) (fun _ _ _ h => h) (Or.inl ⟨by rfl, ?_⟩) ?_ ?_
  rotate_left
  · intro w'
    go_simp
    with_reducible rfl
  rotate_left
  · simp only [Act.put, List.setIfInBounds_toArray, List.set_cons_zero, List.set_cons_succ, i64_w, i32_w]
    rfl
  refine pure_ (i := 19) (N := some 70) (v := undef) (a' := ?_) #[true, true, true, true, true, true, true, true, true, true, true, true, true, true, true, true, true, true, true, true, false, false, false, false, false, false, false, false, false, false, false, false, false, false, false, false, false, false] rfl rfl (by kernel_rfl) (fun _ _ _ h => h) (Or.inr ⟨by rfl, rfl⟩) ?_ ?_
  rotate_left
  · simp only [Act.put, List.setIfInBounds_toArray, List.set_cons_zero, List.set_cons_succ, i64_w, i32_w]
    rfl
  refine pure_ (i := 20) (N := some 71) (v := undef) (a' := ?_) #[true, true, true, true, true, true, true, true, true, true, true, true, true, true, true, true, true, true, true, true, true, false, false, false, false, false, false, false, false, false, false, false, false, false, false, false, false, false] rfl rfl (by kernel_rfl) (fun _ _ _ h => h) (Or.inr ⟨by rfl, rfl⟩) ?_ ?_
  rotate_left
  · simp only [Act.put, List.setIfInBounds_toArray, List.set_cons_zero, List.set_cons_succ, i64_w, i32_w]
    rfl
  refine pure_ (i := 21) (N := some 72) (v := ?_) (a' := ?_) #[true, true, true, true, true, true, true, true, true, true, true, true, true, true, true, true, true, true, true, true, true, true, false, false, false, false, false, false, false, false, false, false, false, false, false, false, false, false] rfl rfl (by kernel_rfl) (fun _ _ _ h => h) (Or.inl ⟨by rfl, ?_⟩) ?_ ?_
  rotate_left
  · intro w'
    go_simp
    with_reducible rfl
  rotate_left
  · simp only [Act.put, List.setIfInBounds_toArray, List.set_cons_zero, List.set_cons_succ, i64_w, i32_w]
    rfl
  refine pure_ (i := 22) (N := some 73) (v := ?_) (a' := ?_) #[true, true, true, true, true, true, true, true, true, true, true, true, true, true, true, true, true, true, true, true, true, true, true, false, false, false, false, false, false, false, false, false, false, false, false, false, false, false] rfl rfl (by kernel_rfl) (fun _ _ _ h => h) (Or.inl ⟨by rfl, ?_⟩) ?_ ?_
  rotate_left
  · intro w'
    go_simp
    with_reducible rfl
  rotate_left
  · simp only [Act.put, List.setIfInBounds_toArray, List.set_cons_zero, List.set_cons_succ, i64_w, i32_w]
    rfl
  refine pure_ (i := 23) (N := some 74) (v := ?_) (a' := ?_) #[true, true, true, true, true, true, true, true, true, true, true, true, true, true, true, true, true, true, true, true, true, true, true, true, false, false, false, false, false, false, false, false, false, false, false, false, false, false] rfl rfl (by kernel_rfl) (fun _ _ _ h => h) (Or.inl ⟨by rfl, ?_⟩) ?_ ?_
  rotate_left
  · intro w'
    go_simp
    with_reducible rfl
  rotate_left
  · simp only [Act.put, List.setIfInBounds_toArray, List.set_cons_zero, List.set_cons_succ, i64_w, i32_w]
    rfl
  refine pure_ (i := 24) (N := some 75) (v := ?_) (a' := ?_) #[true, true, true, true, true, true, true, true, true, true, true, true, true, true, true, true, true, true, true, true, true, true, true, true, true, false, false, false, false, false, false, false, false, false, false, false, false, false] rfl rfl (by kernel_rfl) (fun _ _ _ h => h) (Or.inl ⟨by rfl, ?_⟩) ?_ ?_
  rotate_left
  · intro w'
    go_simp
    with_reducible rfl
  rotate_left
  · simp only [Act.put, List.setIfInBounds_toArray, List.set_cons_zero, List.set_cons_succ, i64_w, i32_w]
    rfl
  refine take_ (i := 25) (N := some 76) (v := ?_) (a' := ?_) #[true, true, true, true, true, true, true, true, true, true, true, true, true, true, true, true, true, true, true, true, true, true, true, true, true, true, false, false, false, false, false, false, false, false, false, false, false, false] rfl rfl (by kernel_rfl) (fun _ _ _ h => h) (Or.inl ⟨by rfl, ?_⟩) hHeld ?_ ?_
  rotate_left
  · rintro w' ⟨s0, s1, s2, s3, s4, s5⟩
    go_simp
    with_reducible rfl
  rotate_left
  · simp only [Act.put, List.setIfInBounds_toArray, List.set_cons_zero, List.set_cons_succ, i64_w, i32_w]
    rfl
  refine take_ (i := 27) (N := some 78) (v := ?_) (a' := ?_) #[true, true, true, true, true, true, true, true, true, true, true, true, true, true, true, true, true, true, true, true, true, true, true, true, true, true, false, true, false, false, false, false, false, false, false, false, false, false] rfl rfl (by kernel_rfl) (fun _ _ _ h => h) (Or.inl ⟨by rfl, ?_⟩) hHeld ?_ ?_
  rotate_left
  · rintro w' ⟨s0, s1, s2, s3, s4, s5⟩
    go_simp
    with_reducible rfl
  rotate_left
  · simp only [Act.put, List.setIfInBounds_toArray, List.set_cons_zero, List.set_cons_succ, i64_w, i32_w]
    rfl
  refine one_ (i := 26) (N := some 77) #[true, true, true, true, true, true, true, true, true, true, true, true, true, true, true, true, true, true, true, true, true, true, true, true, true, true, true, true, false, false, false, false, false, false, false, false, false, false] rfl rfl (by kernel_rfl) (by decide) (fun K hK => ?_)
  refine goes_ Try.func23 (by kernel_rfl) rfl #[.agg #[.int .i64 2, .int .i64 0, .slice (some ⟨wc.heap.size, 0, none⟩) 2 2]] (by rfl) rfl rfl (by simp only [List.map_toArray, List.map_cons, List.map_nil]; rfl) ?_
  with_reducible refine (may2 2 x y (some ⟨wc.heap.size, 0, none⟩) _ false FMp.out HP.out).mono ?_
  rintro e w_ ⟨rfl, hb_⟩
  refine ⟨_, rfl, ?_⟩
  have HB := Aside0.mk (below_step HB.out hb_)
  have X1 := Aside0.mk (blk_below X1.out hb_)
  have X2 := Aside0.mk (blk_below X2.out hb_)
  have HP := Aside0.mk (Kd.C_below HP.out hb_)
  have P2 := Aside0.mk (blk_below P2.out hb_)
  have HG := Aside0.mk (Kd.C_below HG.out hb_)
  have P4 := Aside0.mk (blk_below P4.out hb_)
  clear hb_
  clear m0 m1 m2 i0 i1 i2 m3 m4 m5 i3 i4 i5
  obtain ⟨⟨m0, m1, m2⟩, i0, i1, i2⟩ := cells3 P2.out
  obtain ⟨⟨m3, m4, m5⟩, i3, i4, i5⟩ := cells3 P4.out
  refine hK.out _ _ ⟨m0, m1, m2, m3, m4, m5⟩ (fun hHeld => ?_)
  clear hK K
  refine norm_ (a' := ?_) ?_ ?_
  rotate_left
  · show Act.put _ (some 77) _ = _
    simp only [Act.put, List.setIfInBounds_toArray, List.set_cons_zero, List.set_cons_succ, i64_w, i32_w]
    rfl
  refine one_ (i := 28) (N := some 79) #[true, true, true, true, true, true, true, true, true, true, true, true, true, true, true, true, true, true, true, true, true, true, true, true, true, true, true, true, true, false, false, false, false, false, false, false, false, false] rfl rfl (by kernel_rfl) (by decide) (fun K hK => ?_)
  refine goes_ Try.func23 (by kernel_rfl) rfl #[.agg #[.int .i64 3, .int .i64 0, .slice (some ⟨wc.heap.size + 2, 0, none⟩) 2 2]] (by rfl) rfl rfl (by simp only [List.map_toArray, List.map_cons, List.map_nil]; rfl) ?_
  with_reducible refine (may2 3 x y (some ⟨wc.heap.size + 2, 0, none⟩) _ false FMg.out HG.out).mono ?_
  rintro e w_ ⟨rfl, hb_⟩
  refine ⟨_, rfl, ?_⟩
  have HB := Aside0.mk (below_step HB.out hb_)
  have X1 := Aside0.mk (blk_below X1.out hb_)
  have X2 := Aside0.mk (blk_below X2.out hb_)
  have HP := Aside0.mk (Kd.C_below HP.out hb_)
  have P2 := Aside0.mk (blk_below P2.out hb_)
  have HG := Aside0.mk (Kd.C_below HG.out hb_)
  have P4 := Aside0.mk (blk_below P4.out hb_)
  clear hb_
  clear m0 m1 m2 i0 i1 i2 m3 m4 m5 i3 i4 i5
  obtain ⟨⟨m0, m1, m2⟩, i0, i1, i2⟩ := cells3 P2.out
  obtain ⟨⟨m3, m4, m5⟩, i3, i4, i5⟩ := cells3 P4.out
  refine hK.out _ _ ⟨m0, m1, m2, m3, m4, m5⟩ (fun hHeld => ?_)
  clear hK K
  refine norm_ (a' := ?_) ?_ ?_
  rotate_left
  · show Act.put _ (some 79) _ = _
    simp only [Act.put, List.setIfInBounds_toArray, List.set_cons_zero, List.set_cons_succ, i64_w, i32_w]
    rfl
  refine pure_ (i := 29) (N := some 80) (v := ?_) (a' := ?_) #[true, true, true, true, true, true, true, true, true, true, true, true, true, true, true, true, true, true, true, true, true, true, true, true, true, true, true, true, true, true, false, false, false, false, false, false, false, false] rfl rfl (by kernel_rfl) (fun _ _ _ h => h) (Or.inl ⟨by rfl, ?_⟩) ?_ ?_
  rotate_left
  · intro w'
    go_simp
    with_reducible rfl
  rotate_left
  · simp only [Act.put, List.setIfInBounds_toArray, List.set_cons_zero, List.set_cons_succ, i64_w, i32_w]
    rfl
  refine pure_ (i := 30) (N := some 81) (v := ?_) (a' := ?_) #[true, true, true, true, true, true, true, true, true, true, true, true, true, true, true, true, true, true, true, true, true, true, true, true, true, true, true, true, true, true, true, false, false, false, false, false, false, false] rfl rfl (by kernel_rfl) (fun _ _ _ h => h) (Or.inl ⟨by rfl, ?_⟩) ?_ ?_
  rotate_left
  · intro w'
    go_simp
    with_reducible rfl
  rotate_left
  · simp only [Act.put, List.setIfInBounds_toArray, List.set_cons_zero, List.set_cons_succ, i64_w, i32_w]
    rfl
  refine pure_ (i := 31) (N := some 82) (v := ?_) (a' := ?_) #[true, true, true, true, true, true, true, true, true, true, true, true, true, true, true, true, true, true, true, true, true, true, true, true, true, true, true, true, true, true, true, true, false, false, false, false, false, false] rfl rfl (by kernel_rfl) (fun _ _ _ h => h) (Or.inl ⟨by rfl, ?_⟩) ?_ ?_
  rotate_left
  · intro w'
    go_simp
    with_reducible rfl
  rotate_left
  · simp only [Act.put, List.setIfInBounds_toArray, List.set_cons_zero, List.set_cons_succ, i64_w, i32_w]
    rfl
  refine take_ (i := 32) (N := some 83) (v := ?_) (a' := ?_) #[true, true, true, true, true, true, true, true, true, true, true, true, true, true, true, true, true, true, true, true, true, true, true, true, true, true, true, true, true, true, true, true, true, false, false, false, false, false] rfl rfl (by kernel_rfl) (fun _ _ _ h => h) (Or.inl ⟨by rfl, ?_⟩) hHeld ?_ ?_
  rotate_left
  · rintro w' ⟨s0, s1, s2, s3, s4, s5⟩
    go_simp
    with_reducible rfl
  rotate_left
  · simp only [Act.put, List.setIfInBounds_toArray, List.set_cons_zero, List.set_cons_succ, i64_w, i32_w]
    rfl
  refine take_ (i := 33) (N := some 84) (v := ?_) (a' := ?_) #[true, true, true, true, true, true, true, true, true, true, true, true, true, true, true, true, true, true, true, true, true, true, true, true, true, true, true, true, true, true, true, true, true, true, false, false, false, false] rfl rfl (by kernel_rfl) (fun _ _ _ h => h) (Or.inl ⟨by rfl, ?_⟩) hHeld ?_ ?_
  rotate_left
  · rintro w' ⟨s0, s1, s2, s3, s4, s5⟩
    go_simp
    with_reducible rfl
  rotate_left
  · simp only [Act.put, List.setIfInBounds_toArray, List.set_cons_zero, List.set_cons_succ, i64_w, i32_w]
    rfl
  refine one_ (i := 34) (N := some 85) #[true, true, true, true, true, true, true, true, true, true, true, true, true, true, true, true, true, true, true, true, true, true, true, true, true, true, true, true, true, true, true, true, true, true, true, false, false, false] rfl rfl (by kernel_rfl) (by decide) (fun K hK => ?_)
  refine goes_ Try.func24 (by kernel_rfl) rfl #[.agg #[.int .i64 2, .int .i64 0, .slice (some ⟨wc.heap.size, 0, none⟩) 2 2], .agg #[.int .i64 3, .int .i64 0, .slice (some ⟨wc.heap.size + 2, 0, none⟩) 2 2]] (by rfl) rfl rfl (by simp only [List.map_toArray, List.map_cons, List.map_nil]; rfl) ?_
  with_reducible refine (same2 2 x y (some ⟨wc.heap.size, 0, none⟩) _ 3 (some ⟨wc.heap.size + 2, 0, none⟩) false FSa.out HP.out HG.out).mono ?_
  rintro e w_ ⟨rfl, hb_⟩
  refine ⟨_, rfl, ?_⟩
  have HB := Aside0.mk (below_step HB.out hb_)
  have X1 := Aside0.mk (blk_below X1.out hb_)
  have X2 := Aside0.mk (blk_below X2.out hb_)
  have HP := Aside0.mk (Kd.C_below HP.out hb_)
  have P2 := Aside0.mk (blk_below P2.out hb_)
  have HG := Aside0.mk (Kd.C_below HG.out hb_)
  have P4 := Aside0.mk (blk_below P4.out hb_)
  clear hb_
  clear m0 m1 m2 i0 i1 i2 m3 m4 m5 i3 i4 i5
  obtain ⟨⟨m0, m1, m2⟩, i0, i1, i2⟩ := cells3 P2.out
  obtain ⟨⟨m3, m4, m5⟩, i3, i4, i5⟩ := cells3 P4.out
  refine hK.out _ _ ⟨m0, m1, m2, m3, m4, m5⟩ (fun hHeld => ?_)
  clear hK K
  refine norm_ (a' := ?_) ?_ ?_
  rotate_left
  · show Act.put _ (some 85) _ = _
    simp only [Act.put, List.setIfInBounds_toArray, List.set_cons_zero, List.set_cons_succ, i64_w, i32_w]
    rfl
  refine pure_ (i := 35) (N := some 86) (v := ?_) (a' := ?_) #[true, true, true, true, true, true, true, true, true, true, true, true, true, true, true, true, true, true, true, true, true, true, true, true, true, true, true, true, true, true, true, true, true, true, true, true, false, false] rfl rfl (by kernel_rfl) (fun _ _ _ h => h) (Or.inl ⟨by rfl, ?_⟩) ?_ ?_
  rotate_left
  · intro w'
    go_simp
    with_reducible rfl
  rotate_left
  · simp only [Act.put, List.setIfInBounds_toArray, List.set_cons_zero, List.set_cons_succ, i64_w, i32_w]
    rfl
  refine pure_ (i := 36) (N := some 87) (v := ?_) (a' := ?_) #[true, true, true, true, true, true, true, true, true, true, true, true, true, true, true, true, true, true, true, true, true, true, true, true, true, true, true, true, true, true, true, true, true, true, true, true, true, false] rfl rfl (by kernel_rfl) (fun _ _ _ h => h) (Or.inl ⟨by rfl, ?_⟩) ?_ ?_
  rotate_left
  · intro w'
    go_simp
    with_reducible rfl
  rotate_left
  · simp only [Act.put, List.setIfInBounds_toArray, List.set_cons_zero, List.set_cons_succ, i64_w, i32_w]
    rfl
  refine pure_ (i := 37) (N := some 4) (v := ?_) (a' := ?_) #[true, true, true, true, true, true, true, true, true, true, true, true, true, true, true, true, true, true, true, true, true, true, true, true, true, true, true, true, true, true, true, true, true, true, true, true, true, true] rfl rfl (by kernel_rfl) (fun _ _ _ h => h) (Or.inl ⟨by rfl, ?_⟩) ?_ ?_
  rotate_left
  · intro w'
    go_simp
    with_reducible rfl
  rotate_left
  · simp only [Act.put, List.setIfInBounds_toArray, List.set_cons_zero, List.set_cons_succ, i64_w, i32_w]
    rfl
  refine done_ (by kernel_rfl) ?_

  all_goals go_wp2
  all_goals (try go_ret)
  all_goals first
    | exact ⟨rfl, HB.out⟩
    | (trace_state; sorry)
set_option maxRecDepth 100000 in
set_option maxHeartbeats 16000000 in
theorem pair_ttf (x y : S24) (A B : Option Addr) (c d : Nat) (w : World) (hx : Kd.C k24 w A x.f2.length x.f2) (hcx : x.f2.length ≤ c) (hy : Kd.C k24 w B y.f2.length y.f2) (hcy : y.f2.length ≤ d) (q1 q2 : Nat) (r1 r2 n1 n2 d1 d2 m n dd : Int) (hFSx : term_Size.f x.f0 x.f1 x.f2 = some n1) (hFSy : term_Size.f y.f0 y.f1 y.f2 = some n2) (hFDx : term_Depth.f x.f0 x.f1 x.f2 = some d1) (hFDy : term_Depth.f y.f0 y.f1 y.f2 = some d2) (hFMx : term_May.f x.f0 x.f1 x.f2 = some true) (hFMy : term_May.f y.f0 y.f1 y.f2 = some true) (hFSp : term_Size.f 2 0 [x, y] = some n) (hFDg : term_Depth.f 3 0 [x, y] = some dd) (hFMp : term_May.f 2 0 [x, y] = some false) (hFMg : term_May.f 3 0 [x, y] = some false) (hFSa : term_Same.f 2 0 [x, y] 3 0 [x, y] = some false) (hFN1 : pelicanref05_Nodes.f q1 x.f0 x.f1 x.f2 60 15 = some r1) (hFN2 : pelicanref05_Nodes.f q2 y.f0 y.f1 y.f2 60 15 = some r2)
    (e1 : r1 ≤ 60) (e2 : r2 ≤ 60) (e3 : IntKind.i64.wrap (n1 + n2) = m) (e4 : IntKind.i64.wrap (m + 1) = n) (e5 : IntKind.i64.wrap (1 + max d1 d2) = dd)  (e6 : decide (n ≤ 60) = false) :
    Calls Try.prog 6 #[.agg #[.int .i64 x.f0, .int .i64 x.f1, .slice A x.f2.length c], .agg #[.int .i64 y.f0, .int .i64 y.f1, .slice B y.f2.length d]] w fun e w' => e = .returned (.bool true) ∧ Below w.heap.size w w' := by
  have HX := Aside0.mk hx
  have HY := Aside0.mk hy
  have HCX := Aside0.mk hcx
  have HCY := Aside0.mk hcy
  clear hx hy hcx hcy
  have FSx := Aside0.mk hFSx
  have FSy := Aside0.mk hFSy
  have FDx := Aside0.mk hFDx
  have FDy := Aside0.mk hFDy
  have FMx := Aside0.mk hFMx
  have FMy := Aside0.mk hFMy
  have FSp := Aside0.mk hFSp
  have FDg := Aside0.mk hFDg
  have FMp := Aside0.mk hFMp
  have FMg := Aside0.mk hFMg
  have FSa := Aside0.mk hFSa
  have FN1 := Aside0.mk hFN1
  have FN2 := Aside0.mk hFN2
  clear hFSx hFSy hFDx hFDy hFMx hFMy hFSp hFDg hFMp hFMg hFSa hFN1 hFN2
  go_enter Try.func6, Try.ntmps6
  go_wp2_with (first
    | (go_at_call 9; (with_reducible refine (pelicanlaw05_awake.calls true _ rfl).mono ?_); rintro e w_ ⟨rfl, hb_⟩; obtain ⟨t1_, t2_⟩ := two_allocs' w (.cells #[.int .i64 x.f0, .int .i64 x.f1, .slice A x.f2.length c] 24 (0, 0)) (.cells #[.int .i64 y.f0, .int .i64 y.f1, .slice B y.f2.length d] 24 (0, 0)); have X1 := Aside0.mk (blk_below t1_ hb_); have X2 := Aside0.mk (blk_below t2_ hb_); have HB := Aside0.mk (below_step (below_alloc (below_alloc (Below.refl w.heap.size w) (.cells #[.int .i64 x.f0, .int .i64 x.f1, .slice A x.f2.length c] 24 (0, 0))) (.cells #[.int .i64 y.f0, .int .i64 y.f1, .slice B y.f2.length d] 24 (0, 0))) hb_); clear t1_ t2_ hb_; obtain ⟨⟨k0, k1, k2⟩, j0, j1, j2⟩ := cells3 X1.out; obtain ⟨⟨k3, k4, k5⟩, j3, j4, j5⟩ := cells3 X2.out)
    | (go_at_call 25; (with_reducible refine (pelicanref05_Nodes.calls q1 x.f0 x.f1 A c x.f2 60 15 r1 _ (Kd.C_below HX.out HB.out) HCX.out FN1.out).mono ?_); rintro e w_ ⟨rfl, hb_⟩; clear k0 k1 k2 j0 j1 j2 k3 k4 k5 j3 j4 j5; have HB := Aside0.mk (below_step HB.out hb_); have X1 := Aside0.mk (blk_below X1.out hb_); have X2 := Aside0.mk (blk_below X2.out hb_); obtain ⟨⟨k0, k1, k2⟩, j0, j1, j2⟩ := cells3 X1.out; obtain ⟨⟨k3, k4, k5⟩, j3, j4, j5⟩ := cells3 X2.out; clear hb_)
    | (go_at_call 25; (with_reducible refine (pelicanref05_Nodes.calls q2 y.f0 y.f1 B d y.f2 60 15 r2 _ (Kd.C_below HY.out HB.out) HCY.out FN2.out).mono ?_); rintro e w_ ⟨rfl, hb_⟩; clear k0 k1 k2 j0 j1 j2 k3 k4 k5 j3 j4 j5; have HB := Aside0.mk (below_step HB.out hb_); have X1 := Aside0.mk (blk_below X1.out hb_); have X2 := Aside0.mk (blk_below X2.out hb_); obtain ⟨⟨k0, k1, k2⟩, j0, j1, j2⟩ := cells3 X1.out; obtain ⟨⟨k3, k4, k5⟩, j3, j4, j5⟩ := cells3 X2.out; clear hb_))
  go_cut [6] (fun v_ wc => v_ = .int .i64 n ∧ Aside0 (wc.heap[w.heap.size]? = some (.cells #[.int .i64 x.f0, .int .i64 x.f1, .slice A x.f2.length c] 24 (0, 0))) ∧ Aside0 (wc.heap[w.heap.size + 1]? = some (.cells #[.int .i64 y.f0, .int .i64 y.f1, .slice B y.f2.length d] 24 (0, 0))) ∧ Aside0 (Below w.heap.size w wc))
  case first =>
    have HB := Aside0.mk (below_drew HB.out)
    have X1 := Aside0.mk (blk_drew X1.out)
    have X2 := Aside0.mk (blk_drew X2.out)
    clear k0 k1 k2 j0 j1 j2 k3 k4 k5 j3 j4 j5
    obtain ⟨⟨k0, k1, k2⟩, j0, j1, j2⟩ := cells3 X1.out; obtain ⟨⟨k3, k4, k5⟩, j3, j4, j5⟩ := cells3 X2.out
    go_region_held3 (fun w' => w'.cell? ⟨w.heap.size, 0, none⟩ = some (.int .i64 x.f0) ∧ w'.cell? ⟨w.heap.size, 1, none⟩ = some (.int .i64 x.f1) ∧ w'.cell? ⟨w.heap.size, 2, none⟩ = some (.slice A x.f2.length c) ∧ w'.cell? ⟨w.heap.size + 1, 0, none⟩ = some (.int .i64 y.f0) ∧ w'.cell? ⟨w.heap.size + 1, 1, none⟩ = some (.int .i64 y.f1) ∧ w'.cell? ⟨w.heap.size + 1, 2, none⟩ = some (.slice B y.f2.length d)) (first | exact ⟨k0, k1, k2, k3, k4, k5⟩ | go_keep)
      (first
        | (go_at_call 19; (with_reducible refine (term_Size.calls x.f0 x.f1 A c x.f2 n1 _ (Kd.C_below HX.out HB.out) HCX.out FSx.out).mono ?_); rintro e w_ ⟨rfl, hb_⟩; clear k0 k1 k2 j0 j1 j2 k3 k4 k5 j3 j4 j5; have HB := Aside0.mk (below_step HB.out hb_); have X1 := Aside0.mk (blk_below X1.out hb_); have X2 := Aside0.mk (blk_below X2.out hb_); obtain ⟨⟨k0, k1, k2⟩, j0, j1, j2⟩ := cells3 X1.out; obtain ⟨⟨k3, k4, k5⟩, j3, j4, j5⟩ := cells3 X2.out; clear hb_)
        | (go_at_call 19; (with_reducible refine (term_Size.calls y.f0 y.f1 B d y.f2 n2 _ (Kd.C_below HY.out HB.out) HCY.out FSy.out).mono ?_); rintro e w_ ⟨rfl, hb_⟩; clear k0 k1 k2 j0 j1 j2 k3 k4 k5 j3 j4 j5; have HB := Aside0.mk (below_step HB.out hb_); have X1 := Aside0.mk (blk_below X1.out hb_); have X2 := Aside0.mk (blk_below X2.out hb_); obtain ⟨⟨k0, k1, k2⟩, j0, j1, j2⟩ := cells3 X1.out; obtain ⟨⟨k3, k4, k5⟩, j3, j4, j5⟩ := cells3 X2.out; clear hb_))
    all_goals go_wp2
    all_goals go_meet
    all_goals (case rel => exact ⟨by first | rfl | (have z : IntKind.i64.wrap (1 + d2) = dd := (by rw [← e5, Int.max_eq_right (by omega)]); rw [z]) | (have z : IntKind.i64.wrap (1 + d1) = dd := (by rw [← e5, Int.max_eq_left (by omega)]); rw [z]), X1, X2, HB⟩)
  case rest =>
  obtain ⟨rfl, X1, X2, HB⟩ := hcut
  obtain ⟨⟨k0, k1, k2⟩, j0, j1, j2⟩ := cells3 X1.out; obtain ⟨⟨k3, k4, k5⟩, j3, j4, j5⟩ := cells3 X2.out
  go_wp2
  go_cut [7] (fun v_ wc => v_ = .int .i64 dd ∧ Aside0 (wc.heap[w.heap.size]? = some (.cells #[.int .i64 x.f0, .int .i64 x.f1, .slice A x.f2.length c] 24 (0, 0))) ∧ Aside0 (wc.heap[w.heap.size + 1]? = some (.cells #[.int .i64 y.f0, .int .i64 y.f1, .slice B y.f2.length d] 24 (0, 0))) ∧ Aside0 (Below w.heap.size w wc))
  case first =>
    have HB := Aside0.mk (below_drew HB.out)
    have X1 := Aside0.mk (blk_drew X1.out)
    have X2 := Aside0.mk (blk_drew X2.out)
    clear k0 k1 k2 j0 j1 j2 k3 k4 k5 j3 j4 j5
    obtain ⟨⟨k0, k1, k2⟩, j0, j1, j2⟩ := cells3 X1.out; obtain ⟨⟨k3, k4, k5⟩, j3, j4, j5⟩ := cells3 X2.out
    go_region_held3 (fun w' => w'.cell? ⟨w.heap.size, 0, none⟩ = some (.int .i64 x.f0) ∧ w'.cell? ⟨w.heap.size, 1, none⟩ = some (.int .i64 x.f1) ∧ w'.cell? ⟨w.heap.size, 2, none⟩ = some (.slice A x.f2.length c) ∧ w'.cell? ⟨w.heap.size + 1, 0, none⟩ = some (.int .i64 y.f0) ∧ w'.cell? ⟨w.heap.size + 1, 1, none⟩ = some (.int .i64 y.f1) ∧ w'.cell? ⟨w.heap.size + 1, 2, none⟩ = some (.slice B y.f2.length d)) (first | exact ⟨k0, k1, k2, k3, k4, k5⟩ | go_keep)
      (first
        | (go_at_call 21; (with_reducible refine (term_Depth.calls x.f0 x.f1 A c x.f2 d1 _ (Kd.C_below HX.out HB.out) HCX.out FDx.out).mono ?_); rintro e w_ ⟨rfl, hb_⟩; clear k0 k1 k2 j0 j1 j2 k3 k4 k5 j3 j4 j5; have HB := Aside0.mk (below_step HB.out hb_); have X1 := Aside0.mk (blk_below X1.out hb_); have X2 := Aside0.mk (blk_below X2.out hb_); obtain ⟨⟨k0, k1, k2⟩, j0, j1, j2⟩ := cells3 X1.out; obtain ⟨⟨k3, k4, k5⟩, j3, j4, j5⟩ := cells3 X2.out; clear hb_)
        | (go_at_call 21; (with_reducible refine (term_Depth.calls y.f0 y.f1 B d y.f2 d2 _ (Kd.C_below HY.out HB.out) HCY.out FDy.out).mono ?_); rintro e w_ ⟨rfl, hb_⟩; clear k0 k1 k2 j0 j1 j2 k3 k4 k5 j3 j4 j5; have HB := Aside0.mk (below_step HB.out hb_); have X1 := Aside0.mk (blk_below X1.out hb_); have X2 := Aside0.mk (blk_below X2.out hb_); obtain ⟨⟨k0, k1, k2⟩, j0, j1, j2⟩ := cells3 X1.out; obtain ⟨⟨k3, k4, k5⟩, j3, j4, j5⟩ := cells3 X2.out; clear hb_))
    all_goals go_wp2
    all_goals go_meet
    all_goals (case rel => exact ⟨by first | rfl | (have z : IntKind.i64.wrap (1 + d2) = dd := (by rw [← e5, Int.max_eq_right (by omega)]); rw [z]) | (have z : IntKind.i64.wrap (1 + d1) = dd := (by rw [← e5, Int.max_eq_left (by omega)]); rw [z]), X1, X2, HB⟩)
  case rest =>
  obtain ⟨rfl, X1, X2, HB⟩ := hcut
  obtain ⟨⟨k0, k1, k2⟩, j0, j1, j2⟩ := cells3 X1.out; obtain ⟨⟨k3, k4, k5⟩, j3, j4, j5⟩ := cells3 X2.out
  have Y1 := Aside0.mk (blk_alloc (blk_alloc X1.out (.cells #[.int .i64 x.f0, .int .i64 x.f1, .slice A x.f2.length c, .int .i64 y.f0, .int .i64 y.f1, .slice B y.f2.length d] 24 (0, 0))) (.cells #[.int .i64 2, .int .i64 0, .slice (some ⟨wc.heap.size, 0, none⟩) 2 2] 24 (0, 0)))
  have Y2 := Aside0.mk (blk_alloc (blk_alloc X2.out (.cells #[.int .i64 x.f0, .int .i64 x.f1, .slice A x.f2.length c, .int .i64 y.f0, .int .i64 y.f1, .slice B y.f2.length d] 24 (0, 0))) (.cells #[.int .i64 2, .int .i64 0, .slice (some ⟨wc.heap.size, 0, none⟩) 2 2] 24 (0, 0)))
  obtain ⟨⟨l0, l1, l2⟩, o0, o1, o2⟩ := cells3 Y1.out
  obtain ⟨⟨l3, l4, l5⟩, o3, o4, o5⟩ := cells3 Y2.out
  go_upto_region 8 with (fail)
  obtain ⟨P1, P2, P3, P4⟩ := four_allocs wc (.cells #[.int .i64 x.f0, .int .i64 x.f1, .slice A x.f2.length c, .int .i64 y.f0, .int .i64 y.f1, .slice B y.f2.length d] 24 (0, 0)) (.cells #[.int .i64 2, .int .i64 0, .slice (some ⟨wc.heap.size, 0, none⟩) 2 2] 24 (0, 0)) (.cells #[.int .i64 x.f0, .int .i64 x.f1, .slice A x.f2.length c, .int .i64 y.f0, .int .i64 y.f1, .slice B y.f2.length d] 24 (0, 0)) (.cells #[.int .i64 3, .int .i64 0, .slice (some ⟨wc.heap.size + 2, 0, none⟩) 2 2] 24 (0, 0))
  have P1 := Aside0.mk P1
  have P2 := Aside0.mk P2
  have P3 := Aside0.mk P3
  have P4 := Aside0.mk P4
  have X1 := Aside0.mk (blk_alloc (blk_alloc Y1.out (.cells #[.int .i64 x.f0, .int .i64 x.f1, .slice A x.f2.length c, .int .i64 y.f0, .int .i64 y.f1, .slice B y.f2.length d] 24 (0, 0))) (.cells #[.int .i64 3, .int .i64 0, .slice (some ⟨wc.heap.size + 2, 0, none⟩) 2 2] 24 (0, 0)))
  have X2 := Aside0.mk (blk_alloc (blk_alloc Y2.out (.cells #[.int .i64 x.f0, .int .i64 x.f1, .slice A x.f2.length c, .int .i64 y.f0, .int .i64 y.f1, .slice B y.f2.length d] 24 (0, 0))) (.cells #[.int .i64 3, .int .i64 0, .slice (some ⟨wc.heap.size + 2, 0, none⟩) 2 2] 24 (0, 0)))
  have HB := Aside0.mk (below_alloc (below_alloc (below_alloc (below_alloc HB.out (.cells #[.int .i64 x.f0, .int .i64 x.f1, .slice A x.f2.length c, .int .i64 y.f0, .int .i64 y.f1, .slice B y.f2.length d] 24 (0, 0))) (.cells #[.int .i64 2, .int .i64 0, .slice (some ⟨wc.heap.size, 0, none⟩) 2 2] 24 (0, 0))) (.cells #[.int .i64 x.f0, .int .i64 x.f1, .slice A x.f2.length c, .int .i64 y.f0, .int .i64 y.f1, .slice B y.f2.length d] 24 (0, 0))) (.cells #[.int .i64 3, .int .i64 0, .slice (some ⟨wc.heap.size + 2, 0, none⟩) 2 2] 24 (0, 0)))
  clear l0 l1 l2 o0 o1 o2 l3 l4 l5 o3 o4 o5
  clear k0 k1 k2 j0 j1 j2 k3 k4 k5 j3 j4 j5
  obtain ⟨W4, hW4⟩ : ∃ W4, W4 = ((((wc.alloc (.cells #[.int .i64 x.f0, .int .i64 x.f1, .slice A x.f2.length c, .int .i64 y.f0, .int .i64 y.f1, .slice B y.f2.length d] 24 (0, 0))).alloc (.cells #[.int .i64 2, .int .i64 0, .slice (some ⟨wc.heap.size, 0, none⟩) 2 2] 24 (0, 0))).alloc (.cells #[.int .i64 x.f0, .int .i64 x.f1, .slice A x.f2.length c, .int .i64 y.f0, .int .i64 y.f1, .slice B y.f2.length d] 24 (0, 0))).alloc (.cells #[.int .i64 3, .int .i64 0, .slice (some ⟨wc.heap.size + 2, 0, none⟩) 2 2] 24 (0, 0))) := ⟨_, rfl⟩
  rw [← hW4]
  rw [← hW4] at P1 P2 P3 P4 X1 X2 HB
  clear hW4
  have HP := Aside0.mk (C_two P1.out (k24_mk _ x HCX.out (Kd.C_below HX.out HB.out)) (k24_mk _ y HCY.out (Kd.C_below HY.out HB.out)))
  have HG := Aside0.mk (C_two P3.out (k24_mk _ x HCX.out (Kd.C_below HX.out HB.out)) (k24_mk _ y HCY.out (Kd.C_below HY.out HB.out)))
  obtain ⟨⟨k0, k1, k2⟩, j0, j1, j2⟩ := cells3 X1.out; obtain ⟨⟨k3, k4, k5⟩, j3, j4, j5⟩ := cells3 X2.out
  go_wp2_with (first
    | (go_at_call 23; (with_reducible refine (term_May.calls x.f0 x.f1 A c x.f2 true _ (Kd.C_below HX.out HB.out) HCX.out FMx.out).mono ?_); rintro e w_ ⟨rfl, hb_⟩; have HB := Aside0.mk (below_step HB.out hb_); have X1 := Aside0.mk (blk_below X1.out hb_); have X2 := Aside0.mk (blk_below X2.out hb_); have HP := Aside0.mk (Kd.C_below HP.out hb_); have P2 := Aside0.mk (blk_below P2.out hb_); have HG := Aside0.mk (Kd.C_below HG.out hb_); have P4 := Aside0.mk (blk_below P4.out hb_); clear hb_; clear k0 k1 k2 j0 j1 j2 k3 k4 k5 j3 j4 j5; obtain ⟨⟨k0, k1, k2⟩, j0, j1, j2⟩ := cells3 X1.out; obtain ⟨⟨k3, k4, k5⟩, j3, j4, j5⟩ := cells3 X2.out)
    | (go_at_call 23; (with_reducible refine (term_May.calls y.f0 y.f1 B d y.f2 true _ (Kd.C_below HY.out HB.out) HCY.out FMy.out).mono ?_); rintro e w_ ⟨rfl, hb_⟩; have HB := Aside0.mk (below_step HB.out hb_); have X1 := Aside0.mk (blk_below X1.out hb_); have X2 := Aside0.mk (blk_below X2.out hb_); have HP := Aside0.mk (Kd.C_below HP.out hb_); have P2 := Aside0.mk (blk_below P2.out hb_); have HG := Aside0.mk (Kd.C_below HG.out hb_); have P4 := Aside0.mk (blk_below P4.out hb_); clear hb_; clear k0 k1 k2 j0 j1 j2 k3 k4 k5 j3 j4 j5; obtain ⟨⟨k0, k1, k2⟩, j0, j1, j2⟩ := cells3 X1.out; obtain ⟨⟨k3, k4, k5⟩, j3, j4, j5⟩ := cells3 X2.out))
  have HB := Aside0.mk (below_drew HB.out)
  have X1 := Aside0.mk (blk_drew X1.out)
  have X2 := Aside0.mk (blk_drew X2.out)
  have HP := Aside0.mk (Kd.C_drew HP.out)
  have P2 := Aside0.mk (blk_drew P2.out)
  have HG := Aside0.mk (Kd.C_drew HG.out)
  have P4 := Aside0.mk (blk_drew P4.out)
  obtain ⟨⟨m0, m1, m2⟩, i0, i1, i2⟩ := cells3 P2.out; obtain ⟨⟨m3, m4, m5⟩, i3, i4, i5⟩ := cells3 P4.out
  refine start_ (n := 38) (S := fun w' => w'.cell? ⟨wc.heap.size + 1, 0, none⟩ = some (.int .i64 2) ∧ w'.cell? ⟨wc.heap.size + 1, 1, none⟩ = some (.int .i64 0) ∧ w'.cell? ⟨wc.heap.size + 1, 2, none⟩ = some (.slice (some ⟨wc.heap.size, 0, none⟩) 2 2) ∧ w'.cell? ⟨wc.heap.size + 3, 0, none⟩ = some (.int .i64 3) ∧ w'.cell? ⟨wc.heap.size + 3, 1, none⟩ = some (.int .i64 0) ∧ w'.cell? ⟨wc.heap.size + 3, 2, none⟩ = some (.slice (some ⟨wc.heap.size + 2, 0, none⟩) 2 2)) (ds := []) #[false, false, false, false, false, false, false, false, false, false, false, false, false, false, false, false, false, false, false, false, false, false, false, false, false, false, false, false, false, false, false, false, false, false, false, false, false, false] (by kernel_rfl) rfl rfl ⟨m0, m1, m2, m3, m4, m5⟩ (fun hHeld => ?_)
  refine pure_ (i := 2) (N := some 53) (v := ?_) (a' := ?_) #[false, false, true, false, false, false, false, false, false, false, false, false, false, false, false, false, false, false, false, false, false, false, false, false, false, false, false, false, false, false, false, false, false, false, false, false, false, false] rfl rfl (by kernel_rfl) (fun _ _ _ h => h) (Or.inl ⟨by rfl, ?_⟩) ?_ ?_
  rotate_left
  · intro w'
    go_simp
    with_reducible rfl
  rotate_left
  · simp only [Act.put, List.setIfInBounds_toArray, List.set_cons_zero, List.set_cons_succ, i64_w, i32_w]
    rfl
  refine take_ (i := 0) (N := some 51) (v := ?_) (a' := ?_) #[true, false, true, false, false, false, false, false, false, false, false, false, false, false, false, false, false, false, false, false, false, false, false, false, false, false, false, false, false, false, false, false, false, false, false, false, false, false] rfl rfl (by kernel_rfl) (fun _ _ _ h => h) (Or.inl ⟨by rfl, ?_⟩) hHeld ?_ ?_
  rotate_left
  · rintro w' ⟨s0, s1, s2, s3, s4, s5⟩
    go_simp
    with_reducible rfl
  rotate_left
  · simp only [Act.put, List.setIfInBounds_toArray, List.set_cons_zero, List.set_cons_succ, i64_w, i32_w]
    rfl
  refine one_ (i := 1) (N := some 52) #[true, true, true, false, false, false, false, false, false, false, false, false, false, false, false, false, false, false, false, false, false, false, false, false, false, false, false, false, false, false, false, false, false, false, false, false, false, false] rfl rfl (by kernel_rfl) (by decide) (fun K hK => ?_)
  refine goes_ Try.func19 (by kernel_rfl) rfl #[.agg #[.int .i64 2, .int .i64 0, .slice (some ⟨wc.heap.size, 0, none⟩) 2 2]] (by rfl) rfl rfl (by simp only [List.map_toArray, List.map_cons, List.map_nil]; rfl) ?_
  with_reducible refine (size2 2 x y (some ⟨wc.heap.size, 0, none⟩) _ n FSp.out HP.out).mono ?_
  rintro e w_ ⟨rfl, hb_⟩
  refine ⟨_, rfl, ?_⟩
  have HB := Aside0.mk (below_step HB.out hb_)
  have X1 := Aside0.mk (blk_below X1.out hb_)
  have X2 := Aside0.mk (blk_below X2.out hb_)
  have HP := Aside0.mk (Kd.C_below HP.out hb_)
  have P2 := Aside0.mk (blk_below P2.out hb_)
  have HG := Aside0.mk (Kd.C_below HG.out hb_)
  have P4 := Aside0.mk (blk_below P4.out hb_)
  clear hb_
  clear m0 m1 m2 i0 i1 i2 m3 m4 m5 i3 i4 i5
  obtain ⟨⟨m0, m1, m2⟩, i0, i1, i2⟩ := cells3 P2.out
  obtain ⟨⟨m3, m4, m5⟩, i3, i4, i5⟩ := cells3 P4.out
  refine hK.out _ _ ⟨m0, m1, m2, m3, m4, m5⟩ (fun hHeld => ?_)
  clear hK K
  refine norm_ (a' := ?_) ?_ ?_
  rotate_left
  · show Act.put _ (some 52) _ = _
    simp only [Act.put, List.setIfInBounds_toArray, List.set_cons_zero, List.set_cons_succ, i64_w, i32_w]
    rfl
  refine pure_ (i := 3) (N := some 54) (v := ?_) (a' := ?_) #[true, true, true, true, false, false, false, false, false, false, false, false, false, false, false, false, false, false, false, false, false, false, false, false, false, false, false, false, false, false, false, false, false, false, false, false, false, false] rfl rfl (by kernel_rfl) (fun _ _ _ h => h) (Or.inl ⟨by rfl, ?_⟩) ?_ ?_
  rotate_left
  · intro w'
    go_simp
    with_reducible rfl
  rotate_left
  · simp only [Act.put, List.setIfInBounds_toArray, List.set_cons_zero, List.set_cons_succ, i64_w, i32_w]
    rfl
  refine pure_ (i := 4) (N := some 55) (v := ?_) (a' := ?_) #[true, true, true, true, true, false, false, false, false, false, false, false, false, false, false, false, false, false, false, false, false, false, false, false, false, false, false, false, false, false, false, false, false, false, false, false, false, false] rfl rfl (by kernel_rfl) (fun _ _ _ h => h) (Or.inl ⟨by rfl, ?_⟩) ?_ ?_
  rotate_left
  · intro w'
    go_simp
    with_reducible rfl
  rotate_left
  · simp only [Act.put, List.setIfInBounds_toArray, List.set_cons_zero, List.set_cons_succ, i64_w, i32_w]
    rfl
  refine pure_ (i := 7) (N := some 58) (v := ?_) (a' := ?_) #[true, true, true, true, true, false, false, true, false, false, false, false, false, false, false, false, false, false, false, false, false, false, false, false, false, false, false, false, false, false, false, false, false, false, false, false, false, false] rfl rfl (by kernel_rfl) (fun _ _ _ h => h) (Or.inl ⟨by rfl, ?_⟩) ?_ ?_
  rotate_left
  · intro w'
    go_simp
    with_reducible rfl
  rotate_left
  · simp only [Act.put, List.setIfInBounds_toArray, List.set_cons_zero, List.set_cons_succ, i64_w, i32_w]
    rfl
  refine take_ (i := 5) (N := some 56) (v := ?_) (a' := ?_) #[true, true, true, true, true, true, false, true, false, false, false, false, false, false, false, false, false, false, false, false, false, false, false, false, false, false, false, false, false, false, false, false, false, false, false, false, false, false] rfl rfl (by kernel_rfl) (fun _ _ _ h => h) (Or.inl ⟨by rfl, ?_⟩) hHeld ?_ ?_
  rotate_left
  · rintro w' ⟨s0, s1, s2, s3, s4, s5⟩
    go_simp
    with_reducible rfl
  rotate_left
  · simp only [Act.put, List.setIfInBounds_toArray, List.set_cons_zero, List.set_cons_succ, i64_w, i32_w]
    rfl
  refine one_ (i := 6) (N := some 57) #[true, true, true, true, true, true, true, true, false, false, false, false, false, false, false, false, false, false, false, false, false, false, false, false, false, false, false, false, false, false, false, false, false, false, false, false, false, false] rfl rfl (by kernel_rfl) (by decide) (fun K hK => ?_)
  refine goes_ Try.func21 (by kernel_rfl) rfl #[.agg #[.int .i64 3, .int .i64 0, .slice (some ⟨wc.heap.size + 2, 0, none⟩) 2 2]] (by rfl) rfl rfl (by simp only [List.map_toArray, List.map_cons, List.map_nil]; rfl) ?_
  with_reducible refine (depth2 3 x y (some ⟨wc.heap.size + 2, 0, none⟩) _ dd FDg.out HG.out).mono ?_
  rintro e w_ ⟨rfl, hb_⟩
  refine ⟨_, rfl, ?_⟩
  have HB := Aside0.mk (below_step HB.out hb_)
  have X1 := Aside0.mk (blk_below X1.out hb_)
  have X2 := Aside0.mk (blk_below X2.out hb_)
  have HP := Aside0.mk (Kd.C_below HP.out hb_)
  have P2 := Aside0.mk (blk_below P2.out hb_)
  have HG := Aside0.mk (Kd.C_below HG.out hb_)
  have P4 := Aside0.mk (blk_below P4.out hb_)
  clear hb_
  clear m0 m1 m2 i0 i1 i2 m3 m4 m5 i3 i4 i5
  obtain ⟨⟨m0, m1, m2⟩, i0, i1, i2⟩ := cells3 P2.out
  obtain ⟨⟨m3, m4, m5⟩, i3, i4, i5⟩ := cells3 P4.out
  refine hK.out _ _ ⟨m0, m1, m2, m3, m4, m5⟩ (fun hHeld => ?_)
  clear hK K
  refine norm_ (a' := ?_) ?_ ?_
  rotate_left
  · show Act.put _ (some 57) _ = _
    simp only [Act.put, List.setIfInBounds_toArray, List.set_cons_zero, List.set_cons_succ, i64_w, i32_w]
    rfl
  refine pure_ (i := 8) (N := some 59) (v := ?_) (a' := ?_) #[true, true, true, true, true, true, true, true, true, false, false, false, false, false, false, false, false, false, false, false, false, false, false, false, false, false, false, false, false, false, false, false, false, false, false, false, false, false] rfl rfl (by kernel_rfl) (fun _ _ _ h => h) (Or.inl ⟨by rfl, ?_⟩) ?_ ?_
  rotate_left
  · intro w'
    go_simp
    with_reducible rfl
  rotate_left
  · simp only [Act.put, List.setIfInBounds_toArray, List.set_cons_zero, List.set_cons_succ, i64_w, i32_w]
    rfl
  refine pure_ (i := 9) (N := some 60) (v := ?_) (a' := ?_) #[true, true, true, true, true, true, true, true, true, true, false, false, false, false, false, false, false, false, false, false, false, false, false, false, false, false, false, false, false, false, false, false, false, false, false, false, false, false] rfl rfl (by kernel_rfl) (fun _ _ _ h => h) (Or.inl ⟨by rfl, ?_⟩) ?_ ?_
  rotate_left
  · intro w'
    go_simp
    with_reducible rfl
  rotate_left
  · simp only [Act.put, List.setIfInBounds_toArray, List.set_cons_zero, List.set_cons_succ, i64_w, i32_w]
    rfl
  refine pure_ (i := 10) (N := some 61) (v := ?_) (a' := ?_) #[true, true, true, true, true, true, true, true, true, true, true, false, false, false, false, false, false, false, false, false, false, false, false, false, false, false, false, false, false, false, false, false, false, false, false, false, false, false] rfl rfl (by kernel_rfl) (fun _ _ _ h => h) (Or.inl ⟨by rfl, ?_⟩) ?_ ?_
  rotate_left
  · intro w'
    go_simp
    with_reducible rfl
  rotate_left
  · simp only [Act.put, List.setIfInBounds_toArray, List.set_cons_zero, List.set_cons_succ, i64_w, i32_w]
    rfl
  refine pure_ (i := 13) (N := some 64) (v := ?_) (a' := ?_) #[true, true, true, true, true, true, true, true, true, true, true, false, false, true, false, false, false, false, false, false, false, false, false, false, false, false, false, false, false, false, false, false, false, false, false, false, false, false] rfl rfl (by kernel_rfl) (fun _ _ _ h => h) (Or.inl ⟨by rfl, ?_⟩) ?_ ?_
  rotate_left
  · intro w'
    go_simp
    with_reducible rfl
  rotate_left
  · simp only [Act.put, List.setIfInBounds_toArray, List.set_cons_zero, List.set_cons_succ, i64_w, i32_w]
    rfl
  refine take_ (i := 11) (N := some 62) (v := ?_) (a' := ?_) #[true, true, true, true, true, true, true, true, true, true, true, true, false, true, false, false, false, false, false, false, false, false, false, false, false, false, false, false, false, false, false, false, false, false, false, false, false, false] rfl rfl (by kernel_rfl) (fun _ _ _ h => h) (Or.inl ⟨by rfl, ?_⟩) hHeld ?_ ?_
  rotate_left
  · rintro w' ⟨s0, s1, s2, s3, s4, s5⟩
    go_simp
    with_reducible rfl
  rotate_left
  · simp only [Act.put, List.setIfInBounds_toArray, List.set_cons_zero, List.set_cons_succ, i64_w, i32_w]
    rfl
  refine one_ (i := 12) (N := some 63) #[true, true, true, true, true, true, true, true, true, true, true, true, true, true, false, false, false, false, false, false, false, false, false, false, false, false, false, false, false, false, false, false, false, false, false, false, false, false] rfl rfl (by kernel_rfl) (by decide) (fun K hK => ?_)
  refine goes_ Try.func23 (by kernel_rfl) rfl #[.agg #[.int .i64 2, .int .i64 0, .slice (some ⟨wc.heap.size, 0, none⟩) 2 2]] (by rfl) rfl rfl (by simp only [List.map_toArray, List.map_cons, List.map_nil]; rfl) ?_
  with_reducible refine (may2 2 x y (some ⟨wc.heap.size, 0, none⟩) _ false FMp.out HP.out).mono ?_
  rintro e w_ ⟨rfl, hb_⟩
  refine ⟨_, rfl, ?_⟩
  have HB := Aside0.mk (below_step HB.out hb_)
  have X1 := Aside0.mk (blk_below X1.out hb_)
  have X2 := Aside0.mk (blk_below X2.out hb_)
  have HP := Aside0.mk (Kd.C_below HP.out hb_)
  have P2 := Aside0.mk (blk_below P2.out hb_)
  have HG := Aside0.mk (Kd.C_below HG.out hb_)
  have P4 := Aside0.mk (blk_below P4.out hb_)
  clear hb_
  clear m0 m1 m2 i0 i1 i2 m3 m4 m5 i3 i4 i5
  obtain ⟨⟨m0, m1, m2⟩, i0, i1, i2⟩ := cells3 P2.out
  obtain ⟨⟨m3, m4, m5⟩, i3, i4, i5⟩ := cells3 P4.out
  refine hK.out _ _ ⟨m0, m1, m2, m3, m4, m5⟩ (fun hHeld => ?_)
  clear hK K
  refine norm_ (a' := ?_) ?_ ?_
  rotate_left
  · show Act.put _ (some 63) _ = _
    simp only [Act.put, List.setIfInBounds_toArray, List.set_cons_zero, List.set_cons_succ, i64_w, i32_w]
    rfl
  refine pure_ (i := 14) (N := some 65) (v := ?_) (a' := ?_) #[true, true, true, true, true, true, true, true, true, true, true, true, true, true, true, false, false, false, false, false, false, false, false, false, false, false, false, false, false, false, false, false, false, false, false, false, false, false] rfl rfl (by kernel_rfl) (fun _ _ _ h => h) (Or.inl ⟨by rfl, ?_⟩) ?_ ?_
  rotate_left
  · intro w'
    go_simp
    with_reducible rfl
  rotate_left
  · simp only [Act.put, List.setIfInBounds_toArray, List.set_cons_zero, List.set_cons_succ, i64_w, i32_w]
    rfl
  refine pure_ (i := 15) (N := some 66) (v := ?_) (a' := ?_) #[true, true, true, true, true, true, true, true, true, true, true, true, true, true, true, true, false, false, false, false, false, false, false, false, false, false, false, false, false, false, false, false, false, false, false, false, false, false] rfl rfl (by kernel_rfl) (fun _ _ _ h => h) (Or.inl ⟨by rfl, ?_⟩) ?_ ?_
  rotate_left
  · intro w'
    go_simp
    with_reducible rfl
  rotate_left
  · simp only [Act.put, List.setIfInBounds_toArray, List.set_cons_zero, List.set_cons_succ, i64_w, i32_w]
    rfl
  refine pure_ (i := 16) (N := some 67) (v := ?_) (a' := ?_) #[true, true, true, true, true, true, true, true, true, true, true, true, true, true, true, true, true, false, false, false, false, false, false, false, false, false, false, false, false, false, false, false, false, false, false, false, false, false] rfl rfl (by kernel_rfl) (fun _ _ _ h => h) (Or.inl ⟨by rfl, ?_⟩) ?_ ?_
  rotate_left
  · intro w'
    go_simp
    with_reducible rfl
  rotate_left
  · simp only [Act.put, List.setIfInBounds_toArray, List.set_cons_zero, List.set_cons_succ, i64_w, i32_w]
    rfl
  refine pure_ (i := 17) (N := some 68) (v := ?_) (a' := ?_) #[true, true, true, true, true, true, true, true, true, true, true, true, true, true, true, true, true, true, false, false, false, false, false, false, false, false, false, false, false, false, false, false, false, false, false, false, false, false] rfl rfl (by kernel_rfl) (fun _ _ _ h => h) (Or.inl ⟨by rfl, ?_⟩) ?_ ?_
  rotate_left
  · intro w'
    go_simp
    with_reducible rfl
  rotate_left
  · simp only [Act.put, List.setIfInBounds_toArray, List.set_cons_zero, List.set_cons_succ, i64_w, i32_w]
    rfl
  refine pure_ (i := 18) (N := some 69) (v := ?_) (a' := ?_) #[true, true, true, true, true, true, true, true, true, true, true, true, true, true, true, true, true, true, true, false, false, false, false, false, false, false, false, false, false, false, false, false, false, false, false, false, false, false] rfl rfl (by kernel_rfl) (fun _ _ _ h => h) (Or.inl ⟨by rfl, ?_⟩) ?_ ?_
  rotate_left
  · intro w'
    go_simp
    with_reducible rfl
  rotate_left
  · simp only [Act.put, List.setIfInBounds_toArray, List.set_cons_zero, List.set_cons_succ, i64_w, i32_w]
    rfl
  refine pure_ (i := 19) (N := some 70) (v := undef) (a' := ?_) #[true, true, true, true, true, true, true, true, true, true, true, true, true, true, true, true, true, true, true, true, false, false, false, false, false, false, false, false, false, false, false, false, false, false, false, false, false, false] rfl rfl (by kernel_rfl) (fun _ _ _ h => h) (Or.inr ⟨by rfl, rfl⟩) ?_ ?_
  rotate_left
  · simp only [Act.put, List.setIfInBounds_toArray, List.set_cons_zero, List.set_cons_succ, i64_w, i32_w]
    rfl
  refine pure_ (i := 20) (N := some 71) (v := undef) (a' := ?_) #[true, true, true, true, true, true, true, true, true, true, true, true, true, true, true, true, true, true, true, true, true, false, false, false, false, false, false, false, false, false, false, false, false, false, false, false, false, false] rfl rfl (by kernel_rfl) (fun _ _ _ h => h) (Or.inr ⟨by rfl, rfl⟩) ?_ ?_
  rotate_left
  · simp only [Act.put, List.setIfInBounds_toArray, List.set_cons_zero, List.set_cons_succ, i64_w, i32_w]
    rfl
  refine pure_ (i := 21) (N := some 72) (v := ?_) (a' := ?_) #[true, true, true, true, true, true, true, true, true, true, true, true, true, true, true, true, true, true, true, true, true, true, false, false, false, false, false, false, false, false, false, false, false, false, false, false, false, false] rfl rfl (by kernel_rfl) (fun _ _ _ h => h) (Or.inl ⟨by rfl, ?_⟩) ?_ ?_
  rotate_left
  · intro w'
    go_simp
    with_reducible rfl
  rotate_left
  · simp only [Act.put, List.setIfInBounds_toArray, List.set_cons_zero, List.set_cons_succ, i64_w, i32_w]
    rfl
  refine pure_ (i := 22) (N := some 73) (v := ?_) (a' := ?_) #[true, true, true, true, true, true, true, true, true, true, true, true, true, true, true, true, true, true, true, true, true, true, true, false, false, false, false, false, false, false, false, false, false, false, false, false, false, false] rfl rfl (by kernel_rfl) (fun _ _ _ h => h) (Or.inl ⟨by rfl, ?_⟩) ?_ ?_
  rotate_left
  · intro w'
    go_simp
    with_reducible rfl
  rotate_left
  · simp only [Act.put, List.setIfInBounds_toArray, List.set_cons_zero, List.set_cons_succ, i64_w, i32_w]
    rfl
  refine pure_ (i := 23) (N := some 74) (v := ?_) (a' := ?_) #[true, true, true, true, true, true, true, true, true, true, true, true, true, true, true, true, true, true, true, true, true, true, true, true, false, false, false, false, false, false, false, false, false, false, false, false, false, false] rfl rfl (by kernel_rfl) (fun _ _ _ h => h) (Or.inl ⟨by rfl, ?_⟩) ?_ ?_
  rotate_left
  · intro w'
    go_simp
    with_reducible rfl
  rotate_left
  · simp only [Act.put, List.setIfInBounds_toArray, List.set_cons_zero, List.set_cons_succ, i64_w, i32_w]
    rfl
  refine pure_ (i := 24) (N := some 75) (v := ?_) (a' := ?_) #[true, true, true, true, true, true, true, true, true, true, true, true, true, true, true, true, true, true, true, true, true, true, true, true, true, false, false, false, false, false, false, false, false, false, false, false, false, false] rfl rfl (by kernel_rfl) (fun _ _ _ h => h) (Or.inl ⟨by rfl, ?_⟩) ?_ ?_
  rotate_left
  · intro w'
    go_simp
    with_reducible rfl
  rotate_left
  · simp only [Act.put, List.setIfInBounds_toArray, List.set_cons_zero, List.set_cons_succ, i64_w, i32_w]
    rfl
  refine take_ (i := 25) (N := some 76) (v := ?_) (a' := ?_) #[true, true, true, true, true, true, true, true, true, true, true, true, true, true, true, true, true, true, true, true, true, true, true, true, true, true, false, false, false, false, false, false, false, false, false, false, false, false] rfl rfl (by kernel_rfl) (fun _ _ _ h => h) (Or.inl ⟨by rfl, ?_⟩) hHeld ?_ ?_
  rotate_left
  · rintro w' ⟨s0, s1, s2, s3, s4, s5⟩
    go_simp
    with_reducible rfl
  rotate_left
  · simp only [Act.put, List.setIfInBounds_toArray, List.set_cons_zero, List.set_cons_succ, i64_w, i32_w]
    rfl
  refine take_ (i := 27) (N := some 78) (v := ?_) (a' := ?_) #[true, true, true, true, true, true, true, true, true, true, true, true, true, true, true, true, true, true, true, true, true, true, true, true, true, true, false, true, false, false, false, false, false, false, false, false, false, false] rfl rfl (by kernel_rfl) (fun _ _ _ h => h) (Or.inl ⟨by rfl, ?_⟩) hHeld ?_ ?_
  rotate_left
  · rintro w' ⟨s0, s1, s2, s3, s4, s5⟩
    go_simp
    with_reducible rfl
  rotate_left
  · simp only [Act.put, List.setIfInBounds_toArray, List.set_cons_zero, List.set_cons_succ, i64_w, i32_w]
    rfl
  refine one_ (i := 26) (N := some 77) #[true, true, true, true, true, true, true, true, true, true, true, true, true, true, true, true, true, true, true, true, true, true, true, true, true, true, true, true, false, false, false, false, false, false, false, false, false, false] rfl rfl (by kernel_rfl) (by decide) (fun K hK => ?_)
  refine goes_ Try.func23 (by kernel_rfl) rfl #[.agg #[.int .i64 2, .int .i64 0, .slice (some ⟨wc.heap.size, 0, none⟩) 2 2]] (by rfl) rfl rfl (by simp only [List.map_toArray, List.map_cons, List.map_nil]; rfl) ?_
  with_reducible refine (may2 2 x y (some ⟨wc.heap.size, 0, none⟩) _ false FMp.out HP.out).mono ?_
  rintro e w_ ⟨rfl, hb_⟩
  refine ⟨_, rfl, ?_⟩
  have HB := Aside0.mk (below_step HB.out hb_)
  have X1 := Aside0.mk (blk_below X1.out hb_)
  have X2 := Aside0.mk (blk_below X2.out hb_)
  have HP := Aside0.mk (Kd.C_below HP.out hb_)
  have P2 := Aside0.mk (blk_below P2.out hb_)
  have HG := Aside0.mk (Kd.C_below HG.out hb_)
  have P4 := Aside0.mk (blk_below P4.out hb_)
  clear hb_
  clear m0 m1 m2 i0 i1 i2 m3 m4 m5 i3 i4 i5
  obtain ⟨⟨m0, m1, m2⟩, i0, i1, i2⟩ := cells3 P2.out
  obtain ⟨⟨m3, m4, m5⟩, i3, i4, i5⟩ := cells3 P4.out
  refine hK.out _ _ ⟨m0, m1, m2, m3, m4, m5⟩ (fun hHeld => ?_)
  clear hK K
  refine norm_ (a' := ?_) ?_ ?_
  rotate_left
  · show Act.put _ (some 77) _ = _
    simp only [Act.put, List.setIfInBounds_toArray, List.set_cons_zero, List.set_cons_succ, i64_w, i32_w]
    rfl
  refine one_ (i := 28) (N := some 79) #[true, true, true, true, true, true, true, true, true, true, true, true, true, true, true, true, true, true, true, true, true, true, true, true, true, true, true, true, true, false, false, false, false, false, false, false, false, false] rfl rfl (by kernel_rfl) (by decide) (fun K hK => ?_)
  refine goes_ Try.func23 (by kernel_rfl) rfl #[.agg #[.int .i64 3, .int .i64 0, .slice (some ⟨wc.heap.size + 2, 0, none⟩) 2 2]] (by rfl) rfl rfl (by simp only [List.map_toArray, List.map_cons, List.map_nil]; rfl) ?_
  with_reducible refine (may2 3 x y (some ⟨wc.heap.size + 2, 0, none⟩) _ false FMg.out HG.out).mono ?_
  rintro e w_ ⟨rfl, hb_⟩
  refine ⟨_, rfl, ?_⟩
  have HB := Aside0.mk (below_step HB.out hb_)
  have X1 := Aside0.mk (blk_below X1.out hb_)
  have X2 := Aside0.mk (blk_below X2.out hb_)
  have HP := Aside0.mk (Kd.C_below HP.out hb_)
  have P2 := Aside0.mk (blk_below P2.out hb_)
  have HG := Aside0.mk (Kd.C_below HG.out hb_)
  have P4 := Aside0.mk (blk_below P4.out hb_)
  clear hb_
  clear m0 m1 m2 i0 i1 i2 m3 m4 m5 i3 i4 i5
  obtain ⟨⟨m0, m1, m2⟩, i0, i1, i2⟩ := cells3 P2.out
  obtain ⟨⟨m3, m4, m5⟩, i3, i4, i5⟩ := cells3 P4.out
  refine hK.out _ _ ⟨m0, m1, m2, m3, m4, m5⟩ (fun hHeld => ?_)
  clear hK K
  refine norm_ (a' := ?_) ?_ ?_
  rotate_left
  · show Act.put _ (some 79) _ = _
    simp only [Act.put, List.setIfInBounds_toArray, List.set_cons_zero, List.set_cons_succ, i64_w, i32_w]
    rfl
  refine pure_ (i := 29) (N := some 80) (v := ?_) (a' := ?_) #[true, true, true, true, true, true, true, true, true, true, true, true, true, true, true, true, true, true, true, true, true, true, true, true, true, true, true, true, true, true, false, false, false, false, false, false, false, false] rfl rfl (by kernel_rfl) (fun _ _ _ h => h) (Or.inl ⟨by rfl, ?_⟩) ?_ ?_
  rotate_left
  · intro w'
    go_simp
    with_reducible rfl
  rotate_left
  · simp only [Act.put, List.setIfInBounds_toArray, List.set_cons_zero, List.set_cons_succ, i64_w, i32_w]
    rfl
  refine pure_ (i := 30) (N := some 81) (v := ?_) (a' := ?_) #[true, true, true, true, true, true, true, true, true, true, true, true, true, true, true, true, true, true, true, true, true, true, true, true, true, true, true, true, true, true, true, false, false, false, false, false, false, false] rfl rfl (by kernel_rfl) (fun _ _ _ h => h) (Or.inl ⟨by rfl, ?_⟩) ?_ ?_
  rotate_left
  · intro w'
    go_simp
    with_reducible rfl
  rotate_left
  · simp only [Act.put, List.setIfInBounds_toArray, List.set_cons_zero, List.set_cons_succ, i64_w, i32_w]
    rfl
  refine pure_ (i := 31) (N := some 82) (v := ?_) (a' := ?_) #[true, true, true, true, true, true, true, true, true, true, true, true, true, true, true, true, true, true, true, true, true, true, true, true, true, true, true, true, true, true, true, true, false, false, false, false, false, false] rfl rfl (by kernel_rfl) (fun _ _ _ h => h) (Or.inl ⟨by rfl, ?_⟩) ?_ ?_
  rotate_left
  · intro w'
    go_simp
    with_reducible rfl
  rotate_left
  · simp only [Act.put, List.setIfInBounds_toArray, List.set_cons_zero, List.set_cons_succ, i64_w, i32_w]
    rfl
  refine take_ (i := 32) (N := some 83) (v := ?_) (a' := ?_) #[true, true, true, true, true, true, true, true, true, true, true, true, true, true, true, true, true, true, true, true, true, true, true, true, true, true, true, true, true, true, true, true, true, false, false, false, false, false] rfl rfl (by kernel_rfl) (fun _ _ _ h => h) (Or.inl ⟨by rfl, ?_⟩) hHeld ?_ ?_
  rotate_left
  · rintro w' ⟨s0, s1, s2, s3, s4, s5⟩
    go_simp
    with_reducible rfl
  rotate_left
  · simp only [Act.put, List.setIfInBounds_toArray, List.set_cons_zero, List.set_cons_succ, i64_w, i32_w]
    rfl
  refine take_ (i := 33) (N := some 84) (v := ?_) (a' := ?_) #[true, true, true, true, true, true, true, true, true, true, true, true, true, true, true, true, true, true, true, true, true, true, true, true, true, true, true, true, true, true, true, true, true, true, false, false, false, false] rfl rfl (by kernel_rfl) (fun _ _ _ h => h) (Or.inl ⟨by rfl, ?_⟩) hHeld ?_ ?_
  rotate_left
  · rintro w' ⟨s0, s1, s2, s3, s4, s5⟩
    go_simp
    with_reducible rfl
  rotate_left
  · simp only [Act.put, List.setIfInBounds_toArray, List.set_cons_zero, List.set_cons_succ, i64_w, i32_w]
    rfl
  refine one_ (i := 34) (N := some 85) #[true, true, true, true, true, true, true, true, true, true, true, true, true, true, true, true, true, true, true, true, true, true, true, true, true, true, true, true, true, true, true, true, true, true, true, false, false, false] rfl rfl (by kernel_rfl) (by decide) (fun K hK => ?_)
  refine goes_ Try.func24 (by kernel_rfl) rfl #[.agg #[.int .i64 2, .int .i64 0, .slice (some ⟨wc.heap.size, 0, none⟩) 2 2], .agg #[.int .i64 3, .int .i64 0, .slice (some ⟨wc.heap.size + 2, 0, none⟩) 2 2]] (by rfl) rfl rfl (by simp only [List.map_toArray, List.map_cons, List.map_nil]; rfl) ?_
  with_reducible refine (same2 2 x y (some ⟨wc.heap.size, 0, none⟩) _ 3 (some ⟨wc.heap.size + 2, 0, none⟩) false FSa.out HP.out HG.out).mono ?_
  rintro e w_ ⟨rfl, hb_⟩
  refine ⟨_, rfl, ?_⟩
  have HB := Aside0.mk (below_step HB.out hb_)
  have X1 := Aside0.mk (blk_below X1.out hb_)
  have X2 := Aside0.mk (blk_below X2.out hb_)
  have HP := Aside0.mk (Kd.C_below HP.out hb_)
  have P2 := Aside0.mk (blk_below P2.out hb_)
  have HG := Aside0.mk (Kd.C_below HG.out hb_)
  have P4 := Aside0.mk (blk_below P4.out hb_)
  clear hb_
  clear m0 m1 m2 i0 i1 i2 m3 m4 m5 i3 i4 i5
  obtain ⟨⟨m0, m1, m2⟩, i0, i1, i2⟩ := cells3 P2.out
  obtain ⟨⟨m3, m4, m5⟩, i3, i4, i5⟩ := cells3 P4.out
  refine hK.out _ _ ⟨m0, m1, m2, m3, m4, m5⟩ (fun hHeld => ?_)
  clear hK K
  refine norm_ (a' := ?_) ?_ ?_
  rotate_left
  · show Act.put _ (some 85) _ = _
    simp only [Act.put, List.setIfInBounds_toArray, List.set_cons_zero, List.set_cons_succ, i64_w, i32_w]
    rfl
  refine pure_ (i := 35) (N := some 86) (v := ?_) (a' := ?_) #[true, true, true, true, true, true, true, true, true, true, true, true, true, true, true, true, true, true, true, true, true, true, true, true, true, true, true, true, true, true, true, true, true, true, true, true, false, false] rfl rfl (by kernel_rfl) (fun _ _ _ h => h) (Or.inl ⟨by rfl, ?_⟩) ?_ ?_
  rotate_left
  · intro w'
    go_simp
    with_reducible rfl
  rotate_left
  · simp only [Act.put, List.setIfInBounds_toArray, List.set_cons_zero, List.set_cons_succ, i64_w, i32_w]
    rfl
  refine pure_ (i := 36) (N := some 87) (v := ?_) (a' := ?_) #[true, true, true, true, true, true, true, true, true, true, true, true, true, true, true, true, true, true, true, true, true, true, true, true, true, true, true, true, true, true, true, true, true, true, true, true, true, false] rfl rfl (by kernel_rfl) (fun _ _ _ h => h) (Or.inl ⟨by rfl, ?_⟩) ?_ ?_
  rotate_left
  · intro w'
    go_simp
    with_reducible rfl
  rotate_left
  · simp only [Act.put, List.setIfInBounds_toArray, List.set_cons_zero, List.set_cons_succ, i64_w, i32_w]
    rfl
  refine pure_ (i := 37) (N := some 4) (v := ?_) (a' := ?_) #[true, true, true, true, true, true, true, true, true, true, true, true, true, true, true, true, true, true, true, true, true, true, true, true, true, true, true, true, true, true, true, true, true, true, true, true, true, true] rfl rfl (by kernel_rfl) (fun _ _ _ h => h) (Or.inl ⟨by rfl, ?_⟩) ?_ ?_
  rotate_left
  · intro w'
    go_simp
    with_reducible rfl
  rotate_left
  · simp only [Act.put, List.setIfInBounds_toArray, List.set_cons_zero, List.set_cons_succ, i64_w, i32_w]
    rfl
  refine done_ (by kernel_rfl) ?_

  all_goals go_wp2
  all_goals (try go_ret)
  all_goals first
    | exact ⟨rfl, HB.out⟩
    | (trace_state; sorry)
set_option maxRecDepth 100000 in
set_option maxHeartbeats 16000000 in
theorem pair_tttf (x y : S24) (A B : Option Addr) (c d : Nat) (w : World) (hx : Kd.C k24 w A x.f2.length x.f2) (hcx : x.f2.length ≤ c) (hy : Kd.C k24 w B y.f2.length y.f2) (hcy : y.f2.length ≤ d) (q1 q2 : Nat) (r1 r2 n1 n2 d1 d2 m n dd : Int) (hFSx : term_Size.f x.f0 x.f1 x.f2 = some n1) (hFSy : term_Size.f y.f0 y.f1 y.f2 = some n2) (hFDx : term_Depth.f x.f0 x.f1 x.f2 = some d1) (hFDy : term_Depth.f y.f0 y.f1 y.f2 = some d2) (hFMx : term_May.f x.f0 x.f1 x.f2 = some true) (hFMy : term_May.f y.f0 y.f1 y.f2 = some true) (hFSp : term_Size.f 2 0 [x, y] = some n) (hFDg : term_Depth.f 3 0 [x, y] = some dd) (hFMp : term_May.f 2 0 [x, y] = some false) (hFMg : term_May.f 3 0 [x, y] = some false) (hFSa : term_Same.f 2 0 [x, y] 3 0 [x, y] = some false) (hFN1 : pelicanref05_Nodes.f q1 x.f0 x.f1 x.f2 60 15 = some r1) (hFN2 : pelicanref05_Nodes.f q2 y.f0 y.f1 y.f2 60 15 = some r2)
    (e1 : r1 ≤ 60) (e2 : r2 ≤ 60) (e3 : IntKind.i64.wrap (n1 + n2) = m) (e4 : IntKind.i64.wrap (m + 1) = n) (e5 : IntKind.i64.wrap (1 + max d1 d2) = dd)  (e6 : decide (n ≤ 60) = true) (e7 : decide (dd ≤ 12) = false) :
    Calls Try.prog 6 #[.agg #[.int .i64 x.f0, .int .i64 x.f1, .slice A x.f2.length c], .agg #[.int .i64 y.f0, .int .i64 y.f1, .slice B y.f2.length d]] w fun e w' => e = .returned (.bool true) ∧ Below w.heap.size w w' := by
  have HX := Aside0.mk hx
  have HY := Aside0.mk hy
  have HCX := Aside0.mk hcx
  have HCY := Aside0.mk hcy
  clear hx hy hcx hcy
  have FSx := Aside0.mk hFSx
  have FSy := Aside0.mk hFSy
  have FDx := Aside0.mk hFDx
  have FDy := Aside0.mk hFDy
  have FMx := Aside0.mk hFMx
  have FMy := Aside0.mk hFMy
  have FSp := Aside0.mk hFSp
  have FDg := Aside0.mk hFDg
  have FMp := Aside0.mk hFMp
  have FMg := Aside0.mk hFMg
  have FSa := Aside0.mk hFSa
  have FN1 := Aside0.mk hFN1
  have FN2 := Aside0.mk hFN2
  clear hFSx hFSy hFDx hFDy hFMx hFMy hFSp hFDg hFMp hFMg hFSa hFN1 hFN2
  go_enter Try.func6, Try.ntmps6
  go_wp2_with (first
    | (go_at_call 9; (with_reducible refine (pelicanlaw05_awake.calls true _ rfl).mono ?_); rintro e w_ ⟨rfl, hb_⟩; obtain ⟨t1_, t2_⟩ := two_allocs' w (.cells #[.int .i64 x.f0, .int .i64 x.f1, .slice A x.f2.length c] 24 (0, 0)) (.cells #[.int .i64 y.f0, .int .i64 y.f1, .slice B y.f2.length d] 24 (0, 0)); have X1 := Aside0.mk (blk_below t1_ hb_); have X2 := Aside0.mk (blk_below t2_ hb_); have HB := Aside0.mk (below_step (below_alloc (below_alloc (Below.refl w.heap.size w) (.cells #[.int .i64 x.f0, .int .i64 x.f1, .slice A x.f2.length c] 24 (0, 0))) (.cells #[.int .i64 y.f0, .int .i64 y.f1, .slice B y.f2.length d] 24 (0, 0))) hb_); clear t1_ t2_ hb_; obtain ⟨⟨k0, k1, k2⟩, j0, j1, j2⟩ := cells3 X1.out; obtain ⟨⟨k3, k4, k5⟩, j3, j4, j5⟩ := cells3 X2.out)
    | (go_at_call 25; (with_reducible refine (pelicanref05_Nodes.calls q1 x.f0 x.f1 A c x.f2 60 15 r1 _ (Kd.C_below HX.out HB.out) HCX.out FN1.out).mono ?_); rintro e w_ ⟨rfl, hb_⟩; clear k0 k1 k2 j0 j1 j2 k3 k4 k5 j3 j4 j5; have HB := Aside0.mk (below_step HB.out hb_); have X1 := Aside0.mk (blk_below X1.out hb_); have X2 := Aside0.mk (blk_below X2.out hb_); obtain ⟨⟨k0, k1, k2⟩, j0, j1, j2⟩ := cells3 X1.out; obtain ⟨⟨k3, k4, k5⟩, j3, j4, j5⟩ := cells3 X2.out; clear hb_)
    | (go_at_call 25; (with_reducible refine (pelicanref05_Nodes.calls q2 y.f0 y.f1 B d y.f2 60 15 r2 _ (Kd.C_below HY.out HB.out) HCY.out FN2.out).mono ?_); rintro e w_ ⟨rfl, hb_⟩; clear k0 k1 k2 j0 j1 j2 k3 k4 k5 j3 j4 j5; have HB := Aside0.mk (below_step HB.out hb_); have X1 := Aside0.mk (blk_below X1.out hb_); have X2 := Aside0.mk (blk_below X2.out hb_); obtain ⟨⟨k0, k1, k2⟩, j0, j1, j2⟩ := cells3 X1.out; obtain ⟨⟨k3, k4, k5⟩, j3, j4, j5⟩ := cells3 X2.out; clear hb_))
  go_cut [6] (fun v_ wc => v_ = .int .i64 n ∧ Aside0 (wc.heap[w.heap.size]? = some (.cells #[.int .i64 x.f0, .int .i64 x.f1, .slice A x.f2.length c] 24 (0, 0))) ∧ Aside0 (wc.heap[w.heap.size + 1]? = some (.cells #[.int .i64 y.f0, .int .i64 y.f1, .slice B y.f2.length d] 24 (0, 0))) ∧ Aside0 (Below w.heap.size w wc))
  case first =>
    have HB := Aside0.mk (below_drew HB.out)
    have X1 := Aside0.mk (blk_drew X1.out)
    have X2 := Aside0.mk (blk_drew X2.out)
    clear k0 k1 k2 j0 j1 j2 k3 k4 k5 j3 j4 j5
    obtain ⟨⟨k0, k1, k2⟩, j0, j1, j2⟩ := cells3 X1.out; obtain ⟨⟨k3, k4, k5⟩, j3, j4, j5⟩ := cells3 X2.out
    go_region_held3 (fun w' => w'.cell? ⟨w.heap.size, 0, none⟩ = some (.int .i64 x.f0) ∧ w'.cell? ⟨w.heap.size, 1, none⟩ = some (.int .i64 x.f1) ∧ w'.cell? ⟨w.heap.size, 2, none⟩ = some (.slice A x.f2.length c) ∧ w'.cell? ⟨w.heap.size + 1, 0, none⟩ = some (.int .i64 y.f0) ∧ w'.cell? ⟨w.heap.size + 1, 1, none⟩ = some (.int .i64 y.f1) ∧ w'.cell? ⟨w.heap.size + 1, 2, none⟩ = some (.slice B y.f2.length d)) (first | exact ⟨k0, k1, k2, k3, k4, k5⟩ | go_keep)
      (first
        | (go_at_call 19; (with_reducible refine (term_Size.calls x.f0 x.f1 A c x.f2 n1 _ (Kd.C_below HX.out HB.out) HCX.out FSx.out).mono ?_); rintro e w_ ⟨rfl, hb_⟩; clear k0 k1 k2 j0 j1 j2 k3 k4 k5 j3 j4 j5; have HB := Aside0.mk (below_step HB.out hb_); have X1 := Aside0.mk (blk_below X1.out hb_); have X2 := Aside0.mk (blk_below X2.out hb_); obtain ⟨⟨k0, k1, k2⟩, j0, j1, j2⟩ := cells3 X1.out; obtain ⟨⟨k3, k4, k5⟩, j3, j4, j5⟩ := cells3 X2.out; clear hb_)
        | (go_at_call 19; (with_reducible refine (term_Size.calls y.f0 y.f1 B d y.f2 n2 _ (Kd.C_below HY.out HB.out) HCY.out FSy.out).mono ?_); rintro e w_ ⟨rfl, hb_⟩; clear k0 k1 k2 j0 j1 j2 k3 k4 k5 j3 j4 j5; have HB := Aside0.mk (below_step HB.out hb_); have X1 := Aside0.mk (blk_below X1.out hb_); have X2 := Aside0.mk (blk_below X2.out hb_); obtain ⟨⟨k0, k1, k2⟩, j0, j1, j2⟩ := cells3 X1.out; obtain ⟨⟨k3, k4, k5⟩, j3, j4, j5⟩ := cells3 X2.out; clear hb_))
    all_goals go_wp2
    all_goals go_meet
    all_goals (case rel => exact ⟨by first | rfl | (have z : IntKind.i64.wrap (1 + d2) = dd := (by rw [← e5, Int.max_eq_right (by omega)]); rw [z]) | (have z : IntKind.i64.wrap (1 + d1) = dd := (by rw [← e5, Int.max_eq_left (by omega)]); rw [z]), X1, X2, HB⟩)
  case rest =>
  obtain ⟨rfl, X1, X2, HB⟩ := hcut
  obtain ⟨⟨k0, k1, k2⟩, j0, j1, j2⟩ := cells3 X1.out; obtain ⟨⟨k3, k4, k5⟩, j3, j4, j5⟩ := cells3 X2.out
  go_wp2
  go_cut [7] (fun v_ wc => v_ = .int .i64 dd ∧ Aside0 (wc.heap[w.heap.size]? = some (.cells #[.int .i64 x.f0, .int .i64 x.f1, .slice A x.f2.length c] 24 (0, 0))) ∧ Aside0 (wc.heap[w.heap.size + 1]? = some (.cells #[.int .i64 y.f0, .int .i64 y.f1, .slice B y.f2.length d] 24 (0, 0))) ∧ Aside0 (Below w.heap.size w wc))
  case first =>
    have HB := Aside0.mk (below_drew HB.out)
    have X1 := Aside0.mk (blk_drew X1.out)
    have X2 := Aside0.mk (blk_drew X2.out)
    clear k0 k1 k2 j0 j1 j2 k3 k4 k5 j3 j4 j5
    obtain ⟨⟨k0, k1, k2⟩, j0, j1, j2⟩ := cells3 X1.out; obtain ⟨⟨k3, k4, k5⟩, j3, j4, j5⟩ := cells3 X2.out
    go_region_held3 (fun w' => w'.cell? ⟨w.heap.size, 0, none⟩ = some (.int .i64 x.f0) ∧ w'.cell? ⟨w.heap.size, 1, none⟩ = some (.int .i64 x.f1) ∧ w'.cell? ⟨w.heap.size, 2, none⟩ = some (.slice A x.f2.length c) ∧ w'.cell? ⟨w.heap.size + 1, 0, none⟩ = some (.int .i64 y.f0) ∧ w'.cell? ⟨w.heap.size + 1, 1, none⟩ = some (.int .i64 y.f1) ∧ w'.cell? ⟨w.heap.size + 1, 2, none⟩ = some (.slice B y.f2.length d)) (first | exact ⟨k0, k1, k2, k3, k4, k5⟩ | go_keep)
      (first
        | (go_at_call 21; (with_reducible refine (term_Depth.calls x.f0 x.f1 A c x.f2 d1 _ (Kd.C_below HX.out HB.out) HCX.out FDx.out).mono ?_); rintro e w_ ⟨rfl, hb_⟩; clear k0 k1 k2 j0 j1 j2 k3 k4 k5 j3 j4 j5; have HB := Aside0.mk (below_step HB.out hb_); have X1 := Aside0.mk (blk_below X1.out hb_); have X2 := Aside0.mk (blk_below X2.out hb_); obtain ⟨⟨k0, k1, k2⟩, j0, j1, j2⟩ := cells3 X1.out; obtain ⟨⟨k3, k4, k5⟩, j3, j4, j5⟩ := cells3 X2.out; clear hb_)
        | (go_at_call 21; (with_reducible refine (term_Depth.calls y.f0 y.f1 B d y.f2 d2 _ (Kd.C_below HY.out HB.out) HCY.out FDy.out).mono ?_); rintro e w_ ⟨rfl, hb_⟩; clear k0 k1 k2 j0 j1 j2 k3 k4 k5 j3 j4 j5; have HB := Aside0.mk (below_step HB.out hb_); have X1 := Aside0.mk (blk_below X1.out hb_); have X2 := Aside0.mk (blk_below X2.out hb_); obtain ⟨⟨k0, k1, k2⟩, j0, j1, j2⟩ := cells3 X1.out; obtain ⟨⟨k3, k4, k5⟩, j3, j4, j5⟩ := cells3 X2.out; clear hb_))
    all_goals go_wp2
    all_goals go_meet
    all_goals (case rel => exact ⟨by first | rfl | (have z : IntKind.i64.wrap (1 + d2) = dd := (by rw [← e5, Int.max_eq_right (by omega)]); rw [z]) | (have z : IntKind.i64.wrap (1 + d1) = dd := (by rw [← e5, Int.max_eq_left (by omega)]); rw [z]), X1, X2, HB⟩)
  case rest =>
  obtain ⟨rfl, X1, X2, HB⟩ := hcut
  obtain ⟨⟨k0, k1, k2⟩, j0, j1, j2⟩ := cells3 X1.out; obtain ⟨⟨k3, k4, k5⟩, j3, j4, j5⟩ := cells3 X2.out
  have Y1 := Aside0.mk (blk_alloc (blk_alloc X1.out (.cells #[.int .i64 x.f0, .int .i64 x.f1, .slice A x.f2.length c, .int .i64 y.f0, .int .i64 y.f1, .slice B y.f2.length d] 24 (0, 0))) (.cells #[.int .i64 2, .int .i64 0, .slice (some ⟨wc.heap.size, 0, none⟩) 2 2] 24 (0, 0)))
  have Y2 := Aside0.mk (blk_alloc (blk_alloc X2.out (.cells #[.int .i64 x.f0, .int .i64 x.f1, .slice A x.f2.length c, .int .i64 y.f0, .int .i64 y.f1, .slice B y.f2.length d] 24 (0, 0))) (.cells #[.int .i64 2, .int .i64 0, .slice (some ⟨wc.heap.size, 0, none⟩) 2 2] 24 (0, 0)))
  obtain ⟨⟨l0, l1, l2⟩, o0, o1, o2⟩ := cells3 Y1.out
  obtain ⟨⟨l3, l4, l5⟩, o3, o4, o5⟩ := cells3 Y2.out
  go_upto_region 8 with (fail)
  obtain ⟨P1, P2, P3, P4⟩ := four_allocs wc (.cells #[.int .i64 x.f0, .int .i64 x.f1, .slice A x.f2.length c, .int .i64 y.f0, .int .i64 y.f1, .slice B y.f2.length d] 24 (0, 0)) (.cells #[.int .i64 2, .int .i64 0, .slice (some ⟨wc.heap.size, 0, none⟩) 2 2] 24 (0, 0)) (.cells #[.int .i64 x.f0, .int .i64 x.f1, .slice A x.f2.length c, .int .i64 y.f0, .int .i64 y.f1, .slice B y.f2.length d] 24 (0, 0)) (.cells #[.int .i64 3, .int .i64 0, .slice (some ⟨wc.heap.size + 2, 0, none⟩) 2 2] 24 (0, 0))
  have P1 := Aside0.mk P1
  have P2 := Aside0.mk P2
  have P3 := Aside0.mk P3
  have P4 := Aside0.mk P4
  have X1 := Aside0.mk (blk_alloc (blk_alloc Y1.out (.cells #[.int .i64 x.f0, .int .i64 x.f1, .slice A x.f2.length c, .int .i64 y.f0, .int .i64 y.f1, .slice B y.f2.length d] 24 (0, 0))) (.cells #[.int .i64 3, .int .i64 0, .slice (some ⟨wc.heap.size + 2, 0, none⟩) 2 2] 24 (0, 0)))
  have X2 := Aside0.mk (blk_alloc (blk_alloc Y2.out (.cells #[.int .i64 x.f0, .int .i64 x.f1, .slice A x.f2.length c, .int .i64 y.f0, .int .i64 y.f1, .slice B y.f2.length d] 24 (0, 0))) (.cells #[.int .i64 3, .int .i64 0, .slice (some ⟨wc.heap.size + 2, 0, none⟩) 2 2] 24 (0, 0)))
  have HB := Aside0.mk (below_alloc (below_alloc (below_alloc (below_alloc HB.out (.cells #[.int .i64 x.f0, .int .i64 x.f1, .slice A x.f2.length c, .int .i64 y.f0, .int .i64 y.f1, .slice B y.f2.length d] 24 (0, 0))) (.cells #[.int .i64 2, .int .i64 0, .slice (some ⟨wc.heap.size, 0, none⟩) 2 2] 24 (0, 0))) (.cells #[.int .i64 x.f0, .int .i64 x.f1, .slice A x.f2.length c, .int .i64 y.f0, .int .i64 y.f1, .slice B y.f2.length d] 24 (0, 0))) (.cells #[.int .i64 3, .int .i64 0, .slice (some ⟨wc.heap.size + 2, 0, none⟩) 2 2] 24 (0, 0)))
  clear l0 l1 l2 o0 o1 o2 l3 l4 l5 o3 o4 o5
  clear k0 k1 k2 j0 j1 j2 k3 k4 k5 j3 j4 j5
  obtain ⟨W4, hW4⟩ : ∃ W4, W4 = ((((wc.alloc (.cells #[.int .i64 x.f0, .int .i64 x.f1, .slice A x.f2.length c, .int .i64 y.f0, .int .i64 y.f1, .slice B y.f2.length d] 24 (0, 0))).alloc (.cells #[.int .i64 2, .int .i64 0, .slice (some ⟨wc.heap.size, 0, none⟩) 2 2] 24 (0, 0))).alloc (.cells #[.int .i64 x.f0, .int .i64 x.f1, .slice A x.f2.length c, .int .i64 y.f0, .int .i64 y.f1, .slice B y.f2.length d] 24 (0, 0))).alloc (.cells #[.int .i64 3, .int .i64 0, .slice (some ⟨wc.heap.size + 2, 0, none⟩) 2 2] 24 (0, 0))) := ⟨_, rfl⟩
  rw [← hW4]
  rw [← hW4] at P1 P2 P3 P4 X1 X2 HB
  clear hW4
  have HP := Aside0.mk (C_two P1.out (k24_mk _ x HCX.out (Kd.C_below HX.out HB.out)) (k24_mk _ y HCY.out (Kd.C_below HY.out HB.out)))
  have HG := Aside0.mk (C_two P3.out (k24_mk _ x HCX.out (Kd.C_below HX.out HB.out)) (k24_mk _ y HCY.out (Kd.C_below HY.out HB.out)))
  obtain ⟨⟨k0, k1, k2⟩, j0, j1, j2⟩ := cells3 X1.out; obtain ⟨⟨k3, k4, k5⟩, j3, j4, j5⟩ := cells3 X2.out
  go_wp2_with (first
    | (go_at_call 23; (with_reducible refine (term_May.calls x.f0 x.f1 A c x.f2 true _ (Kd.C_below HX.out HB.out) HCX.out FMx.out).mono ?_); rintro e w_ ⟨rfl, hb_⟩; have HB := Aside0.mk (below_step HB.out hb_); have X1 := Aside0.mk (blk_below X1.out hb_); have X2 := Aside0.mk (blk_below X2.out hb_); have HP := Aside0.mk (Kd.C_below HP.out hb_); have P2 := Aside0.mk (blk_below P2.out hb_); have HG := Aside0.mk (Kd.C_below HG.out hb_); have P4 := Aside0.mk (blk_below P4.out hb_); clear hb_; clear k0 k1 k2 j0 j1 j2 k3 k4 k5 j3 j4 j5; obtain ⟨⟨k0, k1, k2⟩, j0, j1, j2⟩ := cells3 X1.out; obtain ⟨⟨k3, k4, k5⟩, j3, j4, j5⟩ := cells3 X2.out)
    | (go_at_call 23; (with_reducible refine (term_May.calls y.f0 y.f1 B d y.f2 true _ (Kd.C_below HY.out HB.out) HCY.out FMy.out).mono ?_); rintro e w_ ⟨rfl, hb_⟩; have HB := Aside0.mk (below_step HB.out hb_); have X1 := Aside0.mk (blk_below X1.out hb_); have X2 := Aside0.mk (blk_below X2.out hb_); have HP := Aside0.mk (Kd.C_below HP.out hb_); have P2 := Aside0.mk (blk_below P2.out hb_); have HG := Aside0.mk (Kd.C_below HG.out hb_); have P4 := Aside0.mk (blk_below P4.out hb_); clear hb_; clear k0 k1 k2 j0 j1 j2 k3 k4 k5 j3 j4 j5; obtain ⟨⟨k0, k1, k2⟩, j0, j1, j2⟩ := cells3 X1.out; obtain ⟨⟨k3, k4, k5⟩, j3, j4, j5⟩ := cells3 X2.out))
  have HB := Aside0.mk (below_drew HB.out)
  have X1 := Aside0.mk (blk_drew X1.out)
  have X2 := Aside0.mk (blk_drew X2.out)
  have HP := Aside0.mk (Kd.C_drew HP.out)
  have P2 := Aside0.mk (blk_drew P2.out)
  have HG := Aside0.mk (Kd.C_drew HG.out)
  have P4 := Aside0.mk (blk_drew P4.out)
  obtain ⟨⟨m0, m1, m2⟩, i0, i1, i2⟩ := cells3 P2.out; obtain ⟨⟨m3, m4, m5⟩, i3, i4, i5⟩ := cells3 P4.out
  refine start_ (n := 38) (S := fun w' => w'.cell? ⟨wc.heap.size + 1, 0, none⟩ = some (.int .i64 2) ∧ w'.cell? ⟨wc.heap.size + 1, 1, none⟩ = some (.int .i64 0) ∧ w'.cell? ⟨wc.heap.size + 1, 2, none⟩ = some (.slice (some ⟨wc.heap.size, 0, none⟩) 2 2) ∧ w'.cell? ⟨wc.heap.size + 3, 0, none⟩ = some (.int .i64 3) ∧ w'.cell? ⟨wc.heap.size + 3, 1, none⟩ = some (.int .i64 0) ∧ w'.cell? ⟨wc.heap.size + 3, 2, none⟩ = some (.slice (some ⟨wc.heap.size + 2, 0, none⟩) 2 2)) (ds := []) #[false, false, false, false, false, false, false, false, false, false, false, false, false, false, false, false, false, false, false, false, false, false, false, false, false, false, false, false, false, false, false, false, false, false, false, false, false, false] (by kernel_rfl) rfl rfl ⟨m0, m1, m2, m3, m4, m5⟩ (fun hHeld => ?_)
  refine pure_ (i := 2) (N := some 53) (v := ?_) (a' := ?_) #[false, false, true, false, false, false, false, false, false, false, false, false, false, false, false, false, false, false, false, false, false, false, false, false, false, false, false, false, false, false, false, false, false, false, false, false, false, false] rfl rfl (by kernel_rfl) (fun _ _ _ h => h) (Or.inl ⟨by rfl, ?_⟩) ?_ ?_
  rotate_left
  · intro w'
    go_simp
    with_reducible rfl
  rotate_left
  · simp only [Act.put, List.setIfInBounds_toArray, List.set_cons_zero, List.set_cons_succ, i64_w, i32_w]
    rfl
  refine take_ (i := 0) (N := some 51) (v := ?_) (a' := ?_) #[true, false, true, false, false, false, false, false, false, false, false, false, false, false, false, false, false, false, false, false, false, false, false, false, false, false, false, false, false, false, false, false, false, false, false, false, false, false] rfl rfl (by kernel_rfl) (fun _ _ _ h => h) (Or.inl ⟨by rfl, ?_⟩) hHeld ?_ ?_
  rotate_left
  · rintro w' ⟨s0, s1, s2, s3, s4, s5⟩
    go_simp
    with_reducible rfl
  rotate_left
  · simp only [Act.put, List.setIfInBounds_toArray, List.set_cons_zero, List.set_cons_succ, i64_w, i32_w]
    rfl
  refine one_ (i := 1) (N := some 52) #[true, true, true, false, false, false, false, false, false, false, false, false, false, false, false, false, false, false, false, false, false, false, false, false, false, false, false, false, false, false, false, false, false, false, false, false, false, false] rfl rfl (by kernel_rfl) (by decide) (fun K hK => ?_)
  refine goes_ Try.func19 (by kernel_rfl) rfl #[.agg #[.int .i64 2, .int .i64 0, .slice (some ⟨wc.heap.size, 0, none⟩) 2 2]] (by rfl) rfl rfl (by simp only [List.map_toArray, List.map_cons, List.map_nil]; rfl) ?_
  with_reducible refine (size2 2 x y (some ⟨wc.heap.size, 0, none⟩) _ n FSp.out HP.out).mono ?_
  rintro e w_ ⟨rfl, hb_⟩
  refine ⟨_, rfl, ?_⟩
  have HB := Aside0.mk (below_step HB.out hb_)
  have X1 := Aside0.mk (blk_below X1.out hb_)
  have X2 := Aside0.mk (blk_below X2.out hb_)
  have HP := Aside0.mk (Kd.C_below HP.out hb_)
  have P2 := Aside0.mk (blk_below P2.out hb_)
  have HG := Aside0.mk (Kd.C_below HG.out hb_)
  have P4 := Aside0.mk (blk_below P4.out hb_)
  clear hb_
  clear m0 m1 m2 i0 i1 i2 m3 m4 m5 i3 i4 i5
  obtain ⟨⟨m0, m1, m2⟩, i0, i1, i2⟩ := cells3 P2.out
  obtain ⟨⟨m3, m4, m5⟩, i3, i4, i5⟩ := cells3 P4.out
  refine hK.out _ _ ⟨m0, m1, m2, m3, m4, m5⟩ (fun hHeld => ?_)
  clear hK K
  refine norm_ (a' := ?_) ?_ ?_
  rotate_left
  · show Act.put _ (some 52) _ = _
    simp only [Act.put, List.setIfInBounds_toArray, List.set_cons_zero, List.set_cons_succ, i64_w, i32_w]
    rfl
  refine pure_ (i := 3) (N := some 54) (v := ?_) (a' := ?_) #[true, true, true, true, false, false, false, false, false, false, false, false, false, false, false, false, false, false, false, false, false, false, false, false, false, false, false, false, false, false, false, false, false, false, false, false, false, false] rfl rfl (by kernel_rfl) (fun _ _ _ h => h) (Or.inl ⟨by rfl, ?_⟩) ?_ ?_
  rotate_left
  · intro w'
    go_simp
    with_reducible rfl
  rotate_left
  · simp only [Act.put, List.setIfInBounds_toArray, List.set_cons_zero, List.set_cons_succ, i64_w, i32_w]
    rfl
  refine pure_ (i := 4) (N := some 55) (v := ?_) (a' := ?_) #[true, true, true, true, true, false, false, false, false, false, false, false, false, false, false, false, false, false, false, false, false, false, false, false, false, false, false, false, false, false, false, false, false, false, false, false, false, false] rfl rfl (by kernel_rfl) (fun _ _ _ h => h) (Or.inl ⟨by rfl, ?_⟩) ?_ ?_
  rotate_left
  · intro w'
    go_simp
    with_reducible rfl
  rotate_left
  · simp only [Act.put, List.setIfInBounds_toArray, List.set_cons_zero, List.set_cons_succ, i64_w, i32_w]
    rfl
  refine pure_ (i := 7) (N := some 58) (v := ?_) (a' := ?_) #[true, true, true, true, true, false, false, true, false, false, false, false, false, false, false, false, false, false, false, false, false, false, false, false, false, false, false, false, false, false, false, false, false, false, false, false, false, false] rfl rfl (by kernel_rfl) (fun _ _ _ h => h) (Or.inl ⟨by rfl, ?_⟩) ?_ ?_
  rotate_left
  · intro w'
    go_simp
    with_reducible rfl
  rotate_left
  · simp only [Act.put, List.setIfInBounds_toArray, List.set_cons_zero, List.set_cons_succ, i64_w, i32_w]
    rfl
  refine take_ (i := 5) (N := some 56) (v := ?_) (a' := ?_) #[true, true, true, true, true, true, false, true, false, false, false, false, false, false, false, false, false, false, false, false, false, false, false, false, false, false, false, false, false, false, false, false, false, false, false, false, false, false] rfl rfl (by kernel_rfl) (fun _ _ _ h => h) (Or.inl ⟨by rfl, ?_⟩) hHeld ?_ ?_
  rotate_left
  · rintro w' ⟨s0, s1, s2, s3, s4, s5⟩
    go_simp
    with_reducible rfl
  rotate_left
  · simp only [Act.put, List.setIfInBounds_toArray, List.set_cons_zero, List.set_cons_succ, i64_w, i32_w]
    rfl
  refine one_ (i := 6) (N := some 57) #[true, true, true, true, true, true, true, true, false, false, false, false, false, false, false, false, false, false, false, false, false, false, false, false, false, false, false, false, false, false, false, false, false, false, false, false, false, false] rfl rfl (by kernel_rfl) (by decide) (fun K hK => ?_)
  refine goes_ Try.func21 (by kernel_rfl) rfl #[.agg #[.int .i64 3, .int .i64 0, .slice (some ⟨wc.heap.size + 2, 0, none⟩) 2 2]] (by rfl) rfl rfl (by simp only [List.map_toArray, List.map_cons, List.map_nil]; rfl) ?_
  with_reducible refine (depth2 3 x y (some ⟨wc.heap.size + 2, 0, none⟩) _ dd FDg.out HG.out).mono ?_
  rintro e w_ ⟨rfl, hb_⟩
  refine ⟨_, rfl, ?_⟩
  have HB := Aside0.mk (below_step HB.out hb_)
  have X1 := Aside0.mk (blk_below X1.out hb_)
  have X2 := Aside0.mk (blk_below X2.out hb_)
  have HP := Aside0.mk (Kd.C_below HP.out hb_)
  have P2 := Aside0.mk (blk_below P2.out hb_)
  have HG := Aside0.mk (Kd.C_below HG.out hb_)
  have P4 := Aside0.mk (blk_below P4.out hb_)
  clear hb_
  clear m0 m1 m2 i0 i1 i2 m3 m4 m5 i3 i4 i5
  obtain ⟨⟨m0, m1, m2⟩, i0, i1, i2⟩ := cells3 P2.out
  obtain ⟨⟨m3, m4, m5⟩, i3, i4, i5⟩ := cells3 P4.out
  refine hK.out _ _ ⟨m0, m1, m2, m3, m4, m5⟩ (fun hHeld => ?_)
  clear hK K
  refine norm_ (a' := ?_) ?_ ?_
  rotate_left
  · show Act.put _ (some 57) _ = _
    simp only [Act.put, List.setIfInBounds_toArray, List.set_cons_zero, List.set_cons_succ, i64_w, i32_w]
    rfl
  refine pure_ (i := 8) (N := some 59) (v := ?_) (a' := ?_) #[true, true, true, true, true, true, true, true, true, false, false, false, false, false, false, false, false, false, false, false, false, false, false, false, false, false, false, false, false, false, false, false, false, false, false, false, false, false] rfl rfl (by kernel_rfl) (fun _ _ _ h => h) (Or.inl ⟨by rfl, ?_⟩) ?_ ?_
  rotate_left
  · intro w'
    go_simp
    with_reducible rfl
  rotate_left
  · simp only [Act.put, List.setIfInBounds_toArray, List.set_cons_zero, List.set_cons_succ, i64_w, i32_w]
    rfl
  refine pure_ (i := 9) (N := some 60) (v := ?_) (a' := ?_) #[true, true, true, true, true, true, true, true, true, true, false, false, false, false, false, false, false, false, false, false, false, false, false, false, false, false, false, false, false, false, false, false, false, false, false, false, false, false] rfl rfl (by kernel_rfl) (fun _ _ _ h => h) (Or.inl ⟨by rfl, ?_⟩) ?_ ?_
  rotate_left
  · intro w'
    go_simp
    with_reducible rfl
  rotate_left
  · simp only [Act.put, List.setIfInBounds_toArray, List.set_cons_zero, List.set_cons_succ, i64_w, i32_w]
    rfl
  refine pure_ (i := 10) (N := some 61) (v := ?_) (a' := ?_) #[true, true, true, true, true, true, true, true, true, true, true, false, false, false, false, false, false, false, false, false, false, false, false, false, false, false, false, false, false, false, false, false, false, false, false, false, false, false] rfl rfl (by kernel_rfl) (fun _ _ _ h => h) (Or.inl ⟨by rfl, ?_⟩) ?_ ?_
  rotate_left
  · intro w'
    go_simp
    with_reducible rfl
  rotate_left
  · simp only [Act.put, List.setIfInBounds_toArray, List.set_cons_zero, List.set_cons_succ, i64_w, i32_w]
    rfl
  refine pure_ (i := 13) (N := some 64) (v := ?_) (a' := ?_) #[true, true, true, true, true, true, true, true, true, true, true, false, false, true, false, false, false, false, false, false, false, false, false, false, false, false, false, false, false, false, false, false, false, false, false, false, false, false] rfl rfl (by kernel_rfl) (fun _ _ _ h => h) (Or.inl ⟨by rfl, ?_⟩) ?_ ?_
  rotate_left
  · intro w'
    go_simp
    with_reducible rfl
  rotate_left
  · simp only [Act.put, List.setIfInBounds_toArray, List.set_cons_zero, List.set_cons_succ, i64_w, i32_w]
    rfl
  refine take_ (i := 11) (N := some 62) (v := ?_) (a' := ?_) #[true, true, true, true, true, true, true, true, true, true, true, true, false, true, false, false, false, false, false, false, false, false, false, false, false, false, false, false, false, false, false, false, false, false, false, false, false, false] rfl rfl (by kernel_rfl) (fun _ _ _ h => h) (Or.inl ⟨by rfl, ?_⟩) hHeld ?_ ?_
  rotate_left
  · rintro w' ⟨s0, s1, s2, s3, s4, s5⟩
    go_simp
    with_reducible rfl
  rotate_left
  · simp only [Act.put, List.setIfInBounds_toArray, List.set_cons_zero, List.set_cons_succ, i64_w, i32_w]
    rfl
  refine one_ (i := 12) (N := some 63) #[true, true, true, true, true, true, true, true, true, true, true, true, true, true, false, false, false, false, false, false, false, false, false, false, false, false, false, false, false, false, false, false, false, false, false, false, false, false] rfl rfl (by kernel_rfl) (by decide) (fun K hK => ?_)
  refine goes_ Try.func23 (by kernel_rfl) rfl #[.agg #[.int .i64 2, .int .i64 0, .slice (some ⟨wc.heap.size, 0, none⟩) 2 2]] (by rfl) rfl rfl (by simp only [List.map_toArray, List.map_cons, List.map_nil]; rfl) ?_
  with_reducible refine (may2 2 x y (some ⟨wc.heap.size, 0, none⟩) _ false FMp.out HP.out).mono ?_
  rintro e w_ ⟨rfl, hb_⟩
  refine ⟨_, rfl, ?_⟩
  have HB := Aside0.mk (below_step HB.out hb_)
  have X1 := Aside0.mk (blk_below X1.out hb_)
  have X2 := Aside0.mk (blk_below X2.out hb_)
  have HP := Aside0.mk (Kd.C_below HP.out hb_)
  have P2 := Aside0.mk (blk_below P2.out hb_)
  have HG := Aside0.mk (Kd.C_below HG.out hb_)
  have P4 := Aside0.mk (blk_below P4.out hb_)
  clear hb_
  clear m0 m1 m2 i0 i1 i2 m3 m4 m5 i3 i4 i5
  obtain ⟨⟨m0, m1, m2⟩, i0, i1, i2⟩ := cells3 P2.out
  obtain ⟨⟨m3, m4, m5⟩, i3, i4, i5⟩ := cells3 P4.out
  refine hK.out _ _ ⟨m0, m1, m2, m3, m4, m5⟩ (fun hHeld => ?_)
  clear hK K
  refine norm_ (a' := ?_) ?_ ?_
  rotate_left
  · show Act.put _ (some 63) _ = _
    simp only [Act.put, List.setIfInBounds_toArray, List.set_cons_zero, List.set_cons_succ, i64_w, i32_w]
    rfl
  refine pure_ (i := 14) (N := some 65) (v := ?_) (a' := ?_) #[true, true, true, true, true, true, true, true, true, true, true, true, true, true, true, false, false, false, false, false, false, false, false, false, false, false, false, false, false, false, false, false, false, false, false, false, false, false] rfl rfl (by kernel_rfl) (fun _ _ _ h => h) (Or.inl ⟨by rfl, ?_⟩) ?_ ?_
  rotate_left
  · intro w'
    go_simp
    with_reducible rfl
  rotate_left
  · simp only [Act.put, List.setIfInBounds_toArray, List.set_cons_zero, List.set_cons_succ, i64_w, i32_w]
    rfl
  refine pure_ (i := 15) (N := some 66) (v := ?_) (a' := ?_) #[true, true, true, true, true, true, true, true, true, true, true, true, true, true, true, true, false, false, false, false, false, false, false, false, false, false, false, false, false, false, false, false, false, false, false, false, false, false] rfl rfl (by kernel_rfl) (fun _ _ _ h => h) (Or.inl ⟨by rfl, ?_⟩) ?_ ?_
  rotate_left
  · intro w'
    go_simp
    with_reducible rfl
  rotate_left
  · simp only [Act.put, List.setIfInBounds_toArray, List.set_cons_zero, List.set_cons_succ, i64_w, i32_w]
    rfl
  refine pure_ (i := 16) (N := some 67) (v := ?_) (a' := ?_) #[true, true, true, true, true, true, true, true, true, true, true, true, true, true, true, true, true, false, false, false, false, false, false, false, false, false, false, false, false, false, false, false, false, false, false, false, false, false] rfl rfl (by kernel_rfl) (fun _ _ _ h => h) (Or.inl ⟨by rfl, ?_⟩) ?_ ?_
  rotate_left
  · intro w'
    go_simp
    with_reducible rfl
  rotate_left
  · simp only [Act.put, List.setIfInBounds_toArray, List.set_cons_zero, List.set_cons_succ, i64_w, i32_w]
    rfl
  refine pure_ (i := 17) (N := some 68) (v := ?_) (a' := ?_) #[true, true, true, true, true, true, true, true, true, true, true, true, true, true, true, true, true, true, false, false, false, false, false, false, false, false, false, false, false, false, false, false, false, false, false, false, false, false] rfl rfl (by kernel_rfl) (fun _ _ _ h => h) (Or.inl ⟨by rfl, ?_⟩) ?_ ?_
  rotate_left
  · intro w'
    go_simp
    with_reducible rfl
  rotate_left
  · simp only [Act.put, List.setIfInBounds_toArray, List.set_cons_zero, List.set_cons_succ, i64_w, i32_w]
    rfl
  refine pure_ (i := 18) (N := some 69) (v := ?_) (a' := ?_) #[true, true, true, true, true, true, true, true, true, true, true, true, true, true, true, true, true, true, true, false, false, false, false, false, false, false, false, false, false, false, false, false, false, false, false, false, false, false] rfl rfl (by kernel_rfl) (fun _ _ _ h => h) (Or.inl ⟨by rfl, ?_⟩) ?_ ?_
  rotate_left
  · intro w'
    go_simp
    with_reducible rfl
  rotate_left
  · simp only [Act.put, List.setIfInBounds_toArray, List.set_cons_zero, List.set_cons_succ, i64_w, i32_w]
    rfl
  refine pure_ (i := 19) (N := some 70) (v := ?_) (a' := ?_) #[true, true, true, true, true, true, true, true, true, true, true, true, true, true, true, true, true, true, true, true, false, false, false, false, false, false, false, false, false, false, false, false, false, false, false, false, false, false] rfl rfl (by kernel_rfl) (fun _ _ _ h => h) (Or.inl ⟨by rfl, ?_⟩) ?_ ?_
  rotate_left
  · intro w'
    go_simp
    with_reducible rfl
  rotate_left
  · simp only [Act.put, List.setIfInBounds_toArray, List.set_cons_zero, List.set_cons_succ, i64_w, i32_w]
    rfl
  refine pure_ (i := 20) (N := some 71) (v := ?_) (a' := ?_) #[true, true, true, true, true, true, true, true, true, true, true, true, true, true, true, true, true, true, true, true, true, false, false, false, false, false, false, false, false, false, false, false, false, false, false, false, false, false] rfl rfl (by kernel_rfl) (fun _ _ _ h => h) (Or.inl ⟨by rfl, ?_⟩) ?_ ?_
  rotate_left
  · intro w'
    go_simp
    with_reducible rfl
  rotate_left
  · simp only [Act.put, List.setIfInBounds_toArray, List.set_cons_zero, List.set_cons_succ, i64_w, i32_w]
    rfl
  refine pure_ (i := 21) (N := some 72) (v := ?_) (a' := ?_) #[true, true, true, true, true, true, true, true, true, true, true, true, true, true, true, true, true, true, true, true, true, true, false, false, false, false, false, false, false, false, false, false, false, false, false, false, false, false] rfl rfl (by kernel_rfl) (fun _ _ _ h => h) (Or.inl ⟨by rfl, ?_⟩) ?_ ?_
  rotate_left
  · intro w'
    go_simp
    with_reducible rfl
  rotate_left
  · simp only [Act.put, List.setIfInBounds_toArray, List.set_cons_zero, List.set_cons_succ, i64_w, i32_w]
    rfl
  refine pure_ (i := 22) (N := some 73) (v := ?_) (a' := ?_) #[true, true, true, true, true, true, true, true, true, true, true, true, true, true, true, true, true, true, true, true, true, true, true, false, false, false, false, false, false, false, false, false, false, false, false, false, false, false] rfl rfl (by kernel_rfl) (fun _ _ _ h => h) (Or.inl ⟨by rfl, ?_⟩) ?_ ?_
  rotate_left
  · intro w'
    go_simp
    with_reducible rfl
  rotate_left
  · simp only [Act.put, List.setIfInBounds_toArray, List.set_cons_zero, List.set_cons_succ, i64_w, i32_w]
    rfl
  refine pure_ (i := 23) (N := some 74) (v := ?_) (a' := ?_) #[true, true, true, true, true, true, true, true, true, true, true, true, true, true, true, true, true, true, true, true, true, true, true, true, false, false, false, false, false, false, false, false, false, false, false, false, false, false] rfl rfl (by kernel_rfl) (fun _ _ _ h => h) (Or.inl ⟨by rfl, ?_⟩) ?_ ?_
  rotate_left
  · intro w'
    go_simp
    with_reducible rfl
  rotate_left
  · simp only [Act.put, List.setIfInBounds_toArray, List.set_cons_zero, List.set_cons_succ, i64_w, i32_w]
    rfl
  refine pure_ (i := 24) (N := some 75) (v := ?_) (a' := ?_) #[true, true, true, true, true, true, true, true, true, true, true, true, true, true, true, true, true, true, true, true, true, true, true, true, true, false, false, false, false, false, false, false, false, false, false, false, false, false] rfl rfl (by kernel_rfl) (fun _ _ _ h => h) (Or.inl ⟨by rfl, ?_⟩) ?_ ?_
  rotate_left
  · intro w'
    go_simp
    with_reducible rfl
  rotate_left
  · simp only [Act.put, List.setIfInBounds_toArray, List.set_cons_zero, List.set_cons_succ, i64_w, i32_w]
    rfl
  refine take_ (i := 25) (N := some 76) (v := ?_) (a' := ?_) #[true, true, true, true, true, true, true, true, true, true, true, true, true, true, true, true, true, true, true, true, true, true, true, true, true, true, false, false, false, false, false, false, false, false, false, false, false, false] rfl rfl (by kernel_rfl) (fun _ _ _ h => h) (Or.inl ⟨by rfl, ?_⟩) hHeld ?_ ?_
  rotate_left
  · rintro w' ⟨s0, s1, s2, s3, s4, s5⟩
    go_simp
    with_reducible rfl
  rotate_left
  · simp only [Act.put, List.setIfInBounds_toArray, List.set_cons_zero, List.set_cons_succ, i64_w, i32_w]
    rfl
  refine take_ (i := 27) (N := some 78) (v := ?_) (a' := ?_) #[true, true, true, true, true, true, true, true, true, true, true, true, true, true, true, true, true, true, true, true, true, true, true, true, true, true, false, true, false, false, false, false, false, false, false, false, false, false] rfl rfl (by kernel_rfl) (fun _ _ _ h => h) (Or.inl ⟨by rfl, ?_⟩) hHeld ?_ ?_
  rotate_left
  · rintro w' ⟨s0, s1, s2, s3, s4, s5⟩
    go_simp
    with_reducible rfl
  rotate_left
  · simp only [Act.put, List.setIfInBounds_toArray, List.set_cons_zero, List.set_cons_succ, i64_w, i32_w]
    rfl
  refine one_ (i := 26) (N := some 77) #[true, true, true, true, true, true, true, true, true, true, true, true, true, true, true, true, true, true, true, true, true, true, true, true, true, true, true, true, false, false, false, false, false, false, false, false, false, false] rfl rfl (by kernel_rfl) (by decide) (fun K hK => ?_)
  refine goes_ Try.func23 (by kernel_rfl) rfl #[.agg #[.int .i64 2, .int .i64 0, .slice (some ⟨wc.heap.size, 0, none⟩) 2 2]] (by rfl) rfl rfl (by simp only [List.map_toArray, List.map_cons, List.map_nil]; rfl) ?_
  with_reducible refine (may2 2 x y (some ⟨wc.heap.size, 0, none⟩) _ false FMp.out HP.out).mono ?_
  rintro e w_ ⟨rfl, hb_⟩
  refine ⟨_, rfl, ?_⟩
  have HB := Aside0.mk (below_step HB.out hb_)
  have X1 := Aside0.mk (blk_below X1.out hb_)
  have X2 := Aside0.mk (blk_below X2.out hb_)
  have HP := Aside0.mk (Kd.C_below HP.out hb_)
  have P2 := Aside0.mk (blk_below P2.out hb_)
  have HG := Aside0.mk (Kd.C_below HG.out hb_)
  have P4 := Aside0.mk (blk_below P4.out hb_)
  clear hb_
  clear m0 m1 m2 i0 i1 i2 m3 m4 m5 i3 i4 i5
  obtain ⟨⟨m0, m1, m2⟩, i0, i1, i2⟩ := cells3 P2.out
  obtain ⟨⟨m3, m4, m5⟩, i3, i4, i5⟩ := cells3 P4.out
  refine hK.out _ _ ⟨m0, m1, m2, m3, m4, m5⟩ (fun hHeld => ?_)
  clear hK K
  refine norm_ (a' := ?_) ?_ ?_
  rotate_left
  · show Act.put _ (some 77) _ = _
    simp only [Act.put, List.setIfInBounds_toArray, List.set_cons_zero, List.set_cons_succ, i64_w, i32_w]
    rfl
  refine one_ (i := 28) (N := some 79) #[true, true, true, true, true, true, true, true, true, true, true, true, true, true, true, true, true, true, true, true, true, true, true, true, true, true, true, true, true, false, false, false, false, false, false, false, false, false] rfl rfl (by kernel_rfl) (by decide) (fun K hK => ?_)
  refine goes_ Try.func23 (by kernel_rfl) rfl #[.agg #[.int .i64 3, .int .i64 0, .slice (some ⟨wc.heap.size + 2, 0, none⟩) 2 2]] (by rfl) rfl rfl (by simp only [List.map_toArray, List.map_cons, List.map_nil]; rfl) ?_
  with_reducible refine (may2 3 x y (some ⟨wc.heap.size + 2, 0, none⟩) _ false FMg.out HG.out).mono ?_
  rintro e w_ ⟨rfl, hb_⟩
  refine ⟨_, rfl, ?_⟩
  have HB := Aside0.mk (below_step HB.out hb_)
  have X1 := Aside0.mk (blk_below X1.out hb_)
  have X2 := Aside0.mk (blk_below X2.out hb_)
  have HP := Aside0.mk (Kd.C_below HP.out hb_)
  have P2 := Aside0.mk (blk_below P2.out hb_)
  have HG := Aside0.mk (Kd.C_below HG.out hb_)
  have P4 := Aside0.mk (blk_below P4.out hb_)
  clear hb_
  clear m0 m1 m2 i0 i1 i2 m3 m4 m5 i3 i4 i5
  obtain ⟨⟨m0, m1, m2⟩, i0, i1, i2⟩ := cells3 P2.out
  obtain ⟨⟨m3, m4, m5⟩, i3, i4, i5⟩ := cells3 P4.out
  refine hK.out _ _ ⟨m0, m1, m2, m3, m4, m5⟩ (fun hHeld => ?_)
  clear hK K
  refine norm_ (a' := ?_) ?_ ?_
  rotate_left
  · show Act.put _ (some 79) _ = _
    simp only [Act.put, List.setIfInBounds_toArray, List.set_cons_zero, List.set_cons_succ, i64_w, i32_w]
    rfl
  refine pure_ (i := 29) (N := some 80) (v := ?_) (a' := ?_) #[true, true, true, true, true, true, true, true, true, true, true, true, true, true, true, true, true, true, true, true, true, true, true, true, true, true, true, true, true, true, false, false, false, false, false, false, false, false] rfl rfl (by kernel_rfl) (fun _ _ _ h => h) (Or.inl ⟨by rfl, ?_⟩) ?_ ?_
  rotate_left
  · intro w'
    go_simp
    with_reducible rfl
  rotate_left
  · simp only [Act.put, List.setIfInBounds_toArray, List.set_cons_zero, List.set_cons_succ, i64_w, i32_w]
    rfl
  refine pure_ (i := 30) (N := some 81) (v := ?_) (a' := ?_) #[true, true, true, true, true, true, true, true, true, true, true, true, true, true, true, true, true, true, true, true, true, true, true, true, true, true, true, true, true, true, true, false, false, false, false, false, false, false] rfl rfl (by kernel_rfl) (fun _ _ _ h => h) (Or.inl ⟨by rfl, ?_⟩) ?_ ?_
  rotate_left
  · intro w'
    go_simp
    with_reducible rfl
  rotate_left
  · simp only [Act.put, List.setIfInBounds_toArray, List.set_cons_zero, List.set_cons_succ, i64_w, i32_w]
    rfl
  refine pure_ (i := 31) (N := some 82) (v := ?_) (a' := ?_) #[true, true, true, true, true, true, true, true, true, true, true, true, true, true, true, true, true, true, true, true, true, true, true, true, true, true, true, true, true, true, true, true, false, false, false, false, false, false] rfl rfl (by kernel_rfl) (fun _ _ _ h => h) (Or.inl ⟨by rfl, ?_⟩) ?_ ?_
  rotate_left
  · intro w'
    go_simp
    with_reducible rfl
  rotate_left
  · simp only [Act.put, List.setIfInBounds_toArray, List.set_cons_zero, List.set_cons_succ, i64_w, i32_w]
    rfl
  refine take_ (i := 32) (N := some 83) (v := ?_) (a' := ?_) #[true, true, true, true, true, true, true, true, true, true, true, true, true, true, true, true, true, true, true, true, true, true, true, true, true, true, true, true, true, true, true, true, true, false, false, false, false, false] rfl rfl (by kernel_rfl) (fun _ _ _ h => h) (Or.inl ⟨by rfl, ?_⟩) hHeld ?_ ?_
  rotate_left
  · rintro w' ⟨s0, s1, s2, s3, s4, s5⟩
    go_simp
    with_reducible rfl
  rotate_left
  · simp only [Act.put, List.setIfInBounds_toArray, List.set_cons_zero, List.set_cons_succ, i64_w, i32_w]
    rfl
  refine take_ (i := 33) (N := some 84) (v := ?_) (a' := ?_) #[true, true, true, true, true, true, true, true, true, true, true, true, true, true, true, true, true, true, true, true, true, true, true, true, true, true, true, true, true, true, true, true, true, true, false, false, false, false] rfl rfl (by kernel_rfl) (fun _ _ _ h => h) (Or.inl ⟨by rfl, ?_⟩) hHeld ?_ ?_
  rotate_left
  · rintro w' ⟨s0, s1, s2, s3, s4, s5⟩
    go_simp
    with_reducible rfl
  rotate_left
  · simp only [Act.put, List.setIfInBounds_toArray, List.set_cons_zero, List.set_cons_succ, i64_w, i32_w]
    rfl
  refine one_ (i := 34) (N := some 85) #[true, true, true, true, true, true, true, true, true, true, true, true, true, true, true, true, true, true, true, true, true, true, true, true, true, true, true, true, true, true, true, true, true, true, true, false, false, false] rfl rfl (by kernel_rfl) (by decide) (fun K hK => ?_)
  refine goes_ Try.func24 (by kernel_rfl) rfl #[.agg #[.int .i64 2, .int .i64 0, .slice (some ⟨wc.heap.size, 0, none⟩) 2 2], .agg #[.int .i64 3, .int .i64 0, .slice (some ⟨wc.heap.size + 2, 0, none⟩) 2 2]] (by rfl) rfl rfl (by simp only [List.map_toArray, List.map_cons, List.map_nil]; rfl) ?_
  with_reducible refine (same2 2 x y (some ⟨wc.heap.size, 0, none⟩) _ 3 (some ⟨wc.heap.size + 2, 0, none⟩) false FSa.out HP.out HG.out).mono ?_
  rintro e w_ ⟨rfl, hb_⟩
  refine ⟨_, rfl, ?_⟩
  have HB := Aside0.mk (below_step HB.out hb_)
  have X1 := Aside0.mk (blk_below X1.out hb_)
  have X2 := Aside0.mk (blk_below X2.out hb_)
  have HP := Aside0.mk (Kd.C_below HP.out hb_)
  have P2 := Aside0.mk (blk_below P2.out hb_)
  have HG := Aside0.mk (Kd.C_below HG.out hb_)
  have P4 := Aside0.mk (blk_below P4.out hb_)
  clear hb_
  clear m0 m1 m2 i0 i1 i2 m3 m4 m5 i3 i4 i5
  obtain ⟨⟨m0, m1, m2⟩, i0, i1, i2⟩ := cells3 P2.out
  obtain ⟨⟨m3, m4, m5⟩, i3, i4, i5⟩ := cells3 P4.out
  refine hK.out _ _ ⟨m0, m1, m2, m3, m4, m5⟩ (fun hHeld => ?_)
  clear hK K
  refine norm_ (a' := ?_) ?_ ?_
  rotate_left
  · show Act.put _ (some 85) _ = _
    simp only [Act.put, List.setIfInBounds_toArray, List.set_cons_zero, List.set_cons_succ, i64_w, i32_w]
    rfl
  refine pure_ (i := 35) (N := some 86) (v := ?_) (a' := ?_) #[true, true, true, true, true, true, true, true, true, true, true, true, true, true, true, true, true, true, true, true, true, true, true, true, true, true, true, true, true, true, true, true, true, true, true, true, false, false] rfl rfl (by kernel_rfl) (fun _ _ _ h => h) (Or.inl ⟨by rfl, ?_⟩) ?_ ?_
  rotate_left
  · intro w'
    go_simp
    with_reducible rfl
  rotate_left
  · simp only [Act.put, List.setIfInBounds_toArray, List.set_cons_zero, List.set_cons_succ, i64_w, i32_w]
    rfl
  refine pure_ (i := 36) (N := some 87) (v := ?_) (a' := ?_) #[true, true, true, true, true, true, true, true, true, true, true, true, true, true, true, true, true, true, true, true, true, true, true, true, true, true, true, true, true, true, true, true, true, true, true, true, true, false] rfl rfl (by kernel_rfl) (fun _ _ _ h => h) (Or.inl ⟨by rfl, ?_⟩) ?_ ?_
  rotate_left
  · intro w'
    go_simp
    with_reducible rfl
  rotate_left
  · simp only [Act.put, List.setIfInBounds_toArray, List.set_cons_zero, List.set_cons_succ, i64_w, i32_w]
    rfl
  refine pure_ (i := 37) (N := some 4) (v := ?_) (a' := ?_) #[true, true, true, true, true, true, true, true, true, true, true, true, true, true, true, true, true, true, true, true, true, true, true, true, true, true, true, true, true, true, true, true, true, true, true, true, true, true] rfl rfl (by kernel_rfl) (fun _ _ _ h => h) (Or.inl ⟨by rfl, ?_⟩) ?_ ?_
  rotate_left
  · intro w'
    go_simp
    with_reducible rfl
  rotate_left
  · simp only [Act.put, List.setIfInBounds_toArray, List.set_cons_zero, List.set_cons_succ, i64_w, i32_w]
    rfl
  refine done_ (by kernel_rfl) ?_

  all_goals go_wp2
  all_goals (try go_ret)
  all_goals first
    | exact ⟨rfl, HB.out⟩
    | (trace_state; sorry)
set_option maxRecDepth 100000 in
set_option maxHeartbeats 16000000 in
theorem pair_tttt (x y : S24) (A B : Option Addr) (c d : Nat) (w : World) (hx : Kd.C k24 w A x.f2.length x.f2) (hcx : x.f2.length ≤ c) (hy : Kd.C k24 w B y.f2.length y.f2) (hcy : y.f2.length ≤ d) (q1 q2 : Nat) (r1 r2 n1 n2 d1 d2 m n dd : Int) (hFSx : term_Size.f x.f0 x.f1 x.f2 = some n1) (hFSy : term_Size.f y.f0 y.f1 y.f2 = some n2) (hFDx : term_Depth.f x.f0 x.f1 x.f2 = some d1) (hFDy : term_Depth.f y.f0 y.f1 y.f2 = some d2) (hFMx : term_May.f x.f0 x.f1 x.f2 = some true) (hFMy : term_May.f y.f0 y.f1 y.f2 = some true) (hFSp : term_Size.f 2 0 [x, y] = some n) (hFDg : term_Depth.f 3 0 [x, y] = some dd) (hFMp : term_May.f 2 0 [x, y] = some true) (hFMg : term_May.f 3 0 [x, y] = some true) (hFSa : term_Same.f 2 0 [x, y] 3 0 [x, y] = some false) (hFN1 : pelicanref05_Nodes.f q1 x.f0 x.f1 x.f2 60 15 = some r1) (hFN2 : pelicanref05_Nodes.f q2 y.f0 y.f1 y.f2 60 15 = some r2)
    (e1 : r1 ≤ 60) (e2 : r2 ≤ 60) (e3 : IntKind.i64.wrap (n1 + n2) = m) (e4 : IntKind.i64.wrap (m + 1) = n) (e5 : IntKind.i64.wrap (1 + max d1 d2) = dd)  (e6 : decide (n ≤ 60) = true) (e7 : decide (dd ≤ 12) = true) :
    Calls Try.prog 6 #[.agg #[.int .i64 x.f0, .int .i64 x.f1, .slice A x.f2.length c], .agg #[.int .i64 y.f0, .int .i64 y.f1, .slice B y.f2.length d]] w fun e w' => e = .returned (.bool true) ∧ Below w.heap.size w w' := by
  have HX := Aside0.mk hx
  have HY := Aside0.mk hy
  have HCX := Aside0.mk hcx
  have HCY := Aside0.mk hcy
  clear hx hy hcx hcy
  have FSx := Aside0.mk hFSx
  have FSy := Aside0.mk hFSy
  have FDx := Aside0.mk hFDx
  have FDy := Aside0.mk hFDy
  have FMx := Aside0.mk hFMx
  have FMy := Aside0.mk hFMy
  have FSp := Aside0.mk hFSp
  have FDg := Aside0.mk hFDg
  have FMp := Aside0.mk hFMp
  have FMg := Aside0.mk hFMg
  have FSa := Aside0.mk hFSa
  have FN1 := Aside0.mk hFN1
  have FN2 := Aside0.mk hFN2
  clear hFSx hFSy hFDx hFDy hFMx hFMy hFSp hFDg hFMp hFMg hFSa hFN1 hFN2
  go_enter Try.func6, Try.ntmps6
  go_wp2_with (first
    | (go_at_call 9; (with_reducible refine (pelicanlaw05_awake.calls true _ rfl).mono ?_); rintro e w_ ⟨rfl, hb_⟩; obtain ⟨t1_, t2_⟩ := two_allocs' w (.cells #[.int .i64 x.f0, .int .i64 x.f1, .slice A x.f2.length c] 24 (0, 0)) (.cells #[.int .i64 y.f0, .int .i64 y.f1, .slice B y.f2.length d] 24 (0, 0)); have X1 := Aside0.mk (blk_below t1_ hb_); have X2 := Aside0.mk (blk_below t2_ hb_); have HB := Aside0.mk (below_step (below_alloc (below_alloc (Below.refl w.heap.size w) (.cells #[.int .i64 x.f0, .int .i64 x.f1, .slice A x.f2.length c] 24 (0, 0))) (.cells #[.int .i64 y.f0, .int .i64 y.f1, .slice B y.f2.length d] 24 (0, 0))) hb_); clear t1_ t2_ hb_; obtain ⟨⟨k0, k1, k2⟩, j0, j1, j2⟩ := cells3 X1.out; obtain ⟨⟨k3, k4, k5⟩, j3, j4, j5⟩ := cells3 X2.out)
    | (go_at_call 25; (with_reducible refine (pelicanref05_Nodes.calls q1 x.f0 x.f1 A c x.f2 60 15 r1 _ (Kd.C_below HX.out HB.out) HCX.out FN1.out).mono ?_); rintro e w_ ⟨rfl, hb_⟩; clear k0 k1 k2 j0 j1 j2 k3 k4 k5 j3 j4 j5; have HB := Aside0.mk (below_step HB.out hb_); have X1 := Aside0.mk (blk_below X1.out hb_); have X2 := Aside0.mk (blk_below X2.out hb_); obtain ⟨⟨k0, k1, k2⟩, j0, j1, j2⟩ := cells3 X1.out; obtain ⟨⟨k3, k4, k5⟩, j3, j4, j5⟩ := cells3 X2.out; clear hb_)
    | (go_at_call 25; (with_reducible refine (pelicanref05_Nodes.calls q2 y.f0 y.f1 B d y.f2 60 15 r2 _ (Kd.C_below HY.out HB.out) HCY.out FN2.out).mono ?_); rintro e w_ ⟨rfl, hb_⟩; clear k0 k1 k2 j0 j1 j2 k3 k4 k5 j3 j4 j5; have HB := Aside0.mk (below_step HB.out hb_); have X1 := Aside0.mk (blk_below X1.out hb_); have X2 := Aside0.mk (blk_below X2.out hb_); obtain ⟨⟨k0, k1, k2⟩, j0, j1, j2⟩ := cells3 X1.out; obtain ⟨⟨k3, k4, k5⟩, j3, j4, j5⟩ := cells3 X2.out; clear hb_))
  go_cut [6] (fun v_ wc => v_ = .int .i64 n ∧ Aside0 (wc.heap[w.heap.size]? = some (.cells #[.int .i64 x.f0, .int .i64 x.f1, .slice A x.f2.length c] 24 (0, 0))) ∧ Aside0 (wc.heap[w.heap.size + 1]? = some (.cells #[.int .i64 y.f0, .int .i64 y.f1, .slice B y.f2.length d] 24 (0, 0))) ∧ Aside0 (Below w.heap.size w wc))
  case first =>
    have HB := Aside0.mk (below_drew HB.out)
    have X1 := Aside0.mk (blk_drew X1.out)
    have X2 := Aside0.mk (blk_drew X2.out)
    clear k0 k1 k2 j0 j1 j2 k3 k4 k5 j3 j4 j5
    obtain ⟨⟨k0, k1, k2⟩, j0, j1, j2⟩ := cells3 X1.out; obtain ⟨⟨k3, k4, k5⟩, j3, j4, j5⟩ := cells3 X2.out
    go_region_held3 (fun w' => w'.cell? ⟨w.heap.size, 0, none⟩ = some (.int .i64 x.f0) ∧ w'.cell? ⟨w.heap.size, 1, none⟩ = some (.int .i64 x.f1) ∧ w'.cell? ⟨w.heap.size, 2, none⟩ = some (.slice A x.f2.length c) ∧ w'.cell? ⟨w.heap.size + 1, 0, none⟩ = some (.int .i64 y.f0) ∧ w'.cell? ⟨w.heap.size + 1, 1, none⟩ = some (.int .i64 y.f1) ∧ w'.cell? ⟨w.heap.size + 1, 2, none⟩ = some (.slice B y.f2.length d)) (first | exact ⟨k0, k1, k2, k3, k4, k5⟩ | go_keep)
      (first
        | (go_at_call 19; (with_reducible refine (term_Size.calls x.f0 x.f1 A c x.f2 n1 _ (Kd.C_below HX.out HB.out) HCX.out FSx.out).mono ?_); rintro e w_ ⟨rfl, hb_⟩; clear k0 k1 k2 j0 j1 j2 k3 k4 k5 j3 j4 j5; have HB := Aside0.mk (below_step HB.out hb_); have X1 := Aside0.mk (blk_below X1.out hb_); have X2 := Aside0.mk (blk_below X2.out hb_); obtain ⟨⟨k0, k1, k2⟩, j0, j1, j2⟩ := cells3 X1.out; obtain ⟨⟨k3, k4, k5⟩, j3, j4, j5⟩ := cells3 X2.out; clear hb_)
        | (go_at_call 19; (with_reducible refine (term_Size.calls y.f0 y.f1 B d y.f2 n2 _ (Kd.C_below HY.out HB.out) HCY.out FSy.out).mono ?_); rintro e w_ ⟨rfl, hb_⟩; clear k0 k1 k2 j0 j1 j2 k3 k4 k5 j3 j4 j5; have HB := Aside0.mk (below_step HB.out hb_); have X1 := Aside0.mk (blk_below X1.out hb_); have X2 := Aside0.mk (blk_below X2.out hb_); obtain ⟨⟨k0, k1, k2⟩, j0, j1, j2⟩ := cells3 X1.out; obtain ⟨⟨k3, k4, k5⟩, j3, j4, j5⟩ := cells3 X2.out; clear hb_))
    all_goals go_wp2
    all_goals go_meet
    all_goals (case rel => exact ⟨by first | rfl | (have z : IntKind.i64.wrap (1 + d2) = dd := (by rw [← e5, Int.max_eq_right (by omega)]); rw [z]) | (have z : IntKind.i64.wrap (1 + d1) = dd := (by rw [← e5, Int.max_eq_left (by omega)]); rw [z]), X1, X2, HB⟩)
  case rest =>
  obtain ⟨rfl, X1, X2, HB⟩ := hcut
  obtain ⟨⟨k0, k1, k2⟩, j0, j1, j2⟩ := cells3 X1.out; obtain ⟨⟨k3, k4, k5⟩, j3, j4, j5⟩ := cells3 X2.out
  go_wp2
  go_cut [7] (fun v_ wc => v_ = .int .i64 dd ∧ Aside0 (wc.heap[w.heap.size]? = some (.cells #[.int .i64 x.f0, .int .i64 x.f1, .slice A x.f2.length c] 24 (0, 0))) ∧ Aside0 (wc.heap[w.heap.size + 1]? = some (.cells #[.int .i64 y.f0, .int .i64 y.f1, .slice B y.f2.length d] 24 (0, 0))) ∧ Aside0 (Below w.heap.size w wc))
  case first =>
    have HB := Aside0.mk (below_drew HB.out)
    have X1 := Aside0.mk (blk_drew X1.out)
    have X2 := Aside0.mk (blk_drew X2.out)
    clear k0 k1 k2 j0 j1 j2 k3 k4 k5 j3 j4 j5
    obtain ⟨⟨k0, k1, k2⟩, j0, j1, j2⟩ := cells3 X1.out; obtain ⟨⟨k3, k4, k5⟩, j3, j4, j5⟩ := cells3 X2.out
    go_region_held3 (fun w' => w'.cell? ⟨w.heap.size, 0, none⟩ = some (.int .i64 x.f0) ∧ w'.cell? ⟨w.heap.size, 1, none⟩ = some (.int .i64 x.f1) ∧ w'.cell? ⟨w.heap.size, 2, none⟩ = some (.slice A x.f2.length c) ∧ w'.cell? ⟨w.heap.size + 1, 0, none⟩ = some (.int .i64 y.f0) ∧ w'.cell? ⟨w.heap.size + 1, 1, none⟩ = some (.int .i64 y.f1) ∧ w'.cell? ⟨w.heap.size + 1, 2, none⟩ = some (.slice B y.f2.length d)) (first | exact ⟨k0, k1, k2, k3, k4, k5⟩ | go_keep)
      (first
        | (go_at_call 21; (with_reducible refine (term_Depth.calls x.f0 x.f1 A c x.f2 d1 _ (Kd.C_below HX.out HB.out) HCX.out FDx.out).mono ?_); rintro e w_ ⟨rfl, hb_⟩; clear k0 k1 k2 j0 j1 j2 k3 k4 k5 j3 j4 j5; have HB := Aside0.mk (below_step HB.out hb_); have X1 := Aside0.mk (blk_below X1.out hb_); have X2 := Aside0.mk (blk_below X2.out hb_); obtain ⟨⟨k0, k1, k2⟩, j0, j1, j2⟩ := cells3 X1.out; obtain ⟨⟨k3, k4, k5⟩, j3, j4, j5⟩ := cells3 X2.out; clear hb_)
        | (go_at_call 21; (with_reducible refine (term_Depth.calls y.f0 y.f1 B d y.f2 d2 _ (Kd.C_below HY.out HB.out) HCY.out FDy.out).mono ?_); rintro e w_ ⟨rfl, hb_⟩; clear k0 k1 k2 j0 j1 j2 k3 k4 k5 j3 j4 j5; have HB := Aside0.mk (below_step HB.out hb_); have X1 := Aside0.mk (blk_below X1.out hb_); have X2 := Aside0.mk (blk_below X2.out hb_); obtain ⟨⟨k0, k1, k2⟩, j0, j1, j2⟩ := cells3 X1.out; obtain ⟨⟨k3, k4, k5⟩, j3, j4, j5⟩ := cells3 X2.out; clear hb_))
    all_goals go_wp2
    all_goals go_meet
    all_goals (case rel => exact ⟨by first | rfl | (have z : IntKind.i64.wrap (1 + d2) = dd := (by rw [← e5, Int.max_eq_right (by omega)]); rw [z]) | (have z : IntKind.i64.wrap (1 + d1) = dd := (by rw [← e5, Int.max_eq_left (by omega)]); rw [z]), X1, X2, HB⟩)
  case rest =>
  obtain ⟨rfl, X1, X2, HB⟩ := hcut
  obtain ⟨⟨k0, k1, k2⟩, j0, j1, j2⟩ := cells3 X1.out; obtain ⟨⟨k3, k4, k5⟩, j3, j4, j5⟩ := cells3 X2.out
  have Y1 := Aside0.mk (blk_alloc (blk_alloc X1.out (.cells #[.int .i64 x.f0, .int .i64 x.f1, .slice A x.f2.length c, .int .i64 y.f0, .int .i64 y.f1, .slice B y.f2.length d] 24 (0, 0))) (.cells #[.int .i64 2, .int .i64 0, .slice (some ⟨wc.heap.size, 0, none⟩) 2 2] 24 (0, 0)))
  have Y2 := Aside0.mk (blk_alloc (blk_alloc X2.out (.cells #[.int .i64 x.f0, .int .i64 x.f1, .slice A x.f2.length c, .int .i64 y.f0, .int .i64 y.f1, .slice B y.f2.length d] 24 (0, 0))) (.cells #[.int .i64 2, .int .i64 0, .slice (some ⟨wc.heap.size, 0, none⟩) 2 2] 24 (0, 0)))
  obtain ⟨⟨l0, l1, l2⟩, o0, o1, o2⟩ := cells3 Y1.out
  obtain ⟨⟨l3, l4, l5⟩, o3, o4, o5⟩ := cells3 Y2.out
  go_upto_region 8 with (fail)
  obtain ⟨P1, P2, P3, P4⟩ := four_allocs wc (.cells #[.int .i64 x.f0, .int .i64 x.f1, .slice A x.f2.length c, .int .i64 y.f0, .int .i64 y.f1, .slice B y.f2.length d] 24 (0, 0)) (.cells #[.int .i64 2, .int .i64 0, .slice (some ⟨wc.heap.size, 0, none⟩) 2 2] 24 (0, 0)) (.cells #[.int .i64 x.f0, .int .i64 x.f1, .slice A x.f2.length c, .int .i64 y.f0, .int .i64 y.f1, .slice B y.f2.length d] 24 (0, 0)) (.cells #[.int .i64 3, .int .i64 0, .slice (some ⟨wc.heap.size + 2, 0, none⟩) 2 2] 24 (0, 0))
  have P1 := Aside0.mk P1
  have P2 := Aside0.mk P2
  have P3 := Aside0.mk P3
  have P4 := Aside0.mk P4
  have X1 := Aside0.mk (blk_alloc (blk_alloc Y1.out (.cells #[.int .i64 x.f0, .int .i64 x.f1, .slice A x.f2.length c, .int .i64 y.f0, .int .i64 y.f1, .slice B y.f2.length d] 24 (0, 0))) (.cells #[.int .i64 3, .int .i64 0, .slice (some ⟨wc.heap.size + 2, 0, none⟩) 2 2] 24 (0, 0)))
  have X2 := Aside0.mk (blk_alloc (blk_alloc Y2.out (.cells #[.int .i64 x.f0, .int .i64 x.f1, .slice A x.f2.length c, .int .i64 y.f0, .int .i64 y.f1, .slice B y.f2.length d] 24 (0, 0))) (.cells #[.int .i64 3, .int .i64 0, .slice (some ⟨wc.heap.size + 2, 0, none⟩) 2 2] 24 (0, 0)))
  have HB := Aside0.mk (below_alloc (below_alloc (below_alloc (below_alloc HB.out (.cells #[.int .i64 x.f0, .int .i64 x.f1, .slice A x.f2.length c, .int .i64 y.f0, .int .i64 y.f1, .slice B y.f2.length d] 24 (0, 0))) (.cells #[.int .i64 2, .int .i64 0, .slice (some ⟨wc.heap.size, 0, none⟩) 2 2] 24 (0, 0))) (.cells #[.int .i64 x.f0, .int .i64 x.f1, .slice A x.f2.length c, .int .i64 y.f0, .int .i64 y.f1, .slice B y.f2.length d] 24 (0, 0))) (.cells #[.int .i64 3, .int .i64 0, .slice (some ⟨wc.heap.size + 2, 0, none⟩) 2 2] 24 (0, 0)))
  clear l0 l1 l2 o0 o1 o2 l3 l4 l5 o3 o4 o5
  clear k0 k1 k2 j0 j1 j2 k3 k4 k5 j3 j4 j5
  obtain ⟨W4, hW4⟩ : ∃ W4, W4 = ((((wc.alloc (.cells #[.int .i64 x.f0, .int .i64 x.f1, .slice A x.f2.length c, .int .i64 y.f0, .int .i64 y.f1, .slice B y.f2.length d] 24 (0, 0))).alloc (.cells #[.int .i64 2, .int .i64 0, .slice (some ⟨wc.heap.size, 0, none⟩) 2 2] 24 (0, 0))).alloc (.cells #[.int .i64 x.f0, .int .i64 x.f1, .slice A x.f2.length c, .int .i64 y.f0, .int .i64 y.f1, .slice B y.f2.length d] 24 (0, 0))).alloc (.cells #[.int .i64 3, .int .i64 0, .slice (some ⟨wc.heap.size + 2, 0, none⟩) 2 2] 24 (0, 0))) := ⟨_, rfl⟩
  rw [← hW4]
  rw [← hW4] at P1 P2 P3 P4 X1 X2 HB
  clear hW4
  have HP := Aside0.mk (C_two P1.out (k24_mk _ x HCX.out (Kd.C_below HX.out HB.out)) (k24_mk _ y HCY.out (Kd.C_below HY.out HB.out)))
  have HG := Aside0.mk (C_two P3.out (k24_mk _ x HCX.out (Kd.C_below HX.out HB.out)) (k24_mk _ y HCY.out (Kd.C_below HY.out HB.out)))
  obtain ⟨⟨k0, k1, k2⟩, j0, j1, j2⟩ := cells3 X1.out; obtain ⟨⟨k3, k4, k5⟩, j3, j4, j5⟩ := cells3 X2.out
  go_wp2_with (first
    | (go_at_call 23; (with_reducible refine (term_May.calls x.f0 x.f1 A c x.f2 true _ (Kd.C_below HX.out HB.out) HCX.out FMx.out).mono ?_); rintro e w_ ⟨rfl, hb_⟩; have HB := Aside0.mk (below_step HB.out hb_); have X1 := Aside0.mk (blk_below X1.out hb_); have X2 := Aside0.mk (blk_below X2.out hb_); have HP := Aside0.mk (Kd.C_below HP.out hb_); have P2 := Aside0.mk (blk_below P2.out hb_); have HG := Aside0.mk (Kd.C_below HG.out hb_); have P4 := Aside0.mk (blk_below P4.out hb_); clear hb_; clear k0 k1 k2 j0 j1 j2 k3 k4 k5 j3 j4 j5; obtain ⟨⟨k0, k1, k2⟩, j0, j1, j2⟩ := cells3 X1.out; obtain ⟨⟨k3, k4, k5⟩, j3, j4, j5⟩ := cells3 X2.out)
    | (go_at_call 23; (with_reducible refine (term_May.calls y.f0 y.f1 B d y.f2 true _ (Kd.C_below HY.out HB.out) HCY.out FMy.out).mono ?_); rintro e w_ ⟨rfl, hb_⟩; have HB := Aside0.mk (below_step HB.out hb_); have X1 := Aside0.mk (blk_below X1.out hb_); have X2 := Aside0.mk (blk_below X2.out hb_); have HP := Aside0.mk (Kd.C_below HP.out hb_); have P2 := Aside0.mk (blk_below P2.out hb_); have HG := Aside0.mk (Kd.C_below HG.out hb_); have P4 := Aside0.mk (blk_below P4.out hb_); clear hb_; clear k0 k1 k2 j0 j1 j2 k3 k4 k5 j3 j4 j5; obtain ⟨⟨k0, k1, k2⟩, j0, j1, j2⟩ := cells3 X1.out; obtain ⟨⟨k3, k4, k5⟩, j3, j4, j5⟩ := cells3 X2.out))
  have HB := Aside0.mk (below_drew HB.out)
  have X1 := Aside0.mk (blk_drew X1.out)
  have X2 := Aside0.mk (blk_drew X2.out)
  have HP := Aside0.mk (Kd.C_drew HP.out)
  have P2 := Aside0.mk (blk_drew P2.out)
  have HG := Aside0.mk (Kd.C_drew HG.out)
  have P4 := Aside0.mk (blk_drew P4.out)
  obtain ⟨⟨m0, m1, m2⟩, i0, i1, i2⟩ := cells3 P2.out; obtain ⟨⟨m3, m4, m5⟩, i3, i4, i5⟩ := cells3 P4.out
  refine start_ (n := 38) (S := fun w' => w'.cell? ⟨wc.heap.size + 1, 0, none⟩ = some (.int .i64 2) ∧ w'.cell? ⟨wc.heap.size + 1, 1, none⟩ = some (.int .i64 0) ∧ w'.cell? ⟨wc.heap.size + 1, 2, none⟩ = some (.slice (some ⟨wc.heap.size, 0, none⟩) 2 2) ∧ w'.cell? ⟨wc.heap.size + 3, 0, none⟩ = some (.int .i64 3) ∧ w'.cell? ⟨wc.heap.size + 3, 1, none⟩ = some (.int .i64 0) ∧ w'.cell? ⟨wc.heap.size + 3, 2, none⟩ = some (.slice (some ⟨wc.heap.size + 2, 0, none⟩) 2 2)) (ds := []) #[false, false, false, false, false, false, false, false, false, false, false, false, false, false, false, false, false, false, false, false, false, false, false, false, false, false, false, false, false, false, false, false, false, false, false, false, false, false] (by kernel_rfl) rfl rfl ⟨m0, m1, m2, m3, m4, m5⟩ (fun hHeld => ?_)
  refine pure_ (i := 2) (N := some 53) (v := ?_) (a' := ?_) #[false, false, true, false, false, false, false, false, false, false, false, false, false, false, false, false, false, false, false, false, false, false, false, false, false, false, false, false, false, false, false, false, false, false, false, false, false, false] rfl rfl (by kernel_rfl) (fun _ _ _ h => h) (Or.inl ⟨by rfl, ?_⟩) ?_ ?_
  rotate_left
  · intro w'
    go_simp
    with_reducible rfl
  rotate_left
  · simp only [Act.put, List.setIfInBounds_toArray, List.set_cons_zero, List.set_cons_succ, i64_w, i32_w]
    rfl
  refine take_ (i := 0) (N := some 51) (v := ?_) (a' := ?_) #[true, false, true, false, false, false, false, false, false, false, false, false, false, false, false, false, false, false, false, false, false, false, false, false, false, false, false, false, false, false, false, false, false, false, false, false, false, false] rfl rfl (by kernel_rfl) (fun _ _ _ h => h) (Or.inl ⟨by rfl, ?_⟩) hHeld ?_ ?_
  rotate_left
  · rintro w' ⟨s0, s1, s2, s3, s4, s5⟩
    go_simp
    with_reducible rfl
  rotate_left
  · simp only [Act.put, List.setIfInBounds_toArray, List.set_cons_zero, List.set_cons_succ, i64_w, i32_w]
    rfl
  refine one_ (i := 1) (N := some 52) #[true, true, true, false, false, false, false, false, false, false, false, false, false, false, false, false, false, false, false, false, false, false, false, false, false, false, false, false, false, false, false, false, false, false, false, false, false, false] rfl rfl (by kernel_rfl) (by decide) (fun K hK => ?_)
  refine goes_ Try.func19 (by kernel_rfl) rfl #[.agg #[.int .i64 2, .int .i64 0, .slice (some ⟨wc.heap.size, 0, none⟩) 2 2]] (by rfl) rfl rfl (by simp only [List.map_toArray, List.map_cons, List.map_nil]; rfl) ?_
  with_reducible refine (size2 2 x y (some ⟨wc.heap.size, 0, none⟩) _ n FSp.out HP.out).mono ?_
  rintro e w_ ⟨rfl, hb_⟩
  refine ⟨_, rfl, ?_⟩
  have HB := Aside0.mk (below_step HB.out hb_)
  have X1 := Aside0.mk (blk_below X1.out hb_)
  have X2 := Aside0.mk (blk_below X2.out hb_)
  have HP := Aside0.mk (Kd.C_below HP.out hb_)
  have P2 := Aside0.mk (blk_below P2.out hb_)
  have HG := Aside0.mk (Kd.C_below HG.out hb_)
  have P4 := Aside0.mk (blk_below P4.out hb_)
  clear hb_
  clear m0 m1 m2 i0 i1 i2 m3 m4 m5 i3 i4 i5
  obtain ⟨⟨m0, m1, m2⟩, i0, i1, i2⟩ := cells3 P2.out
  obtain ⟨⟨m3, m4, m5⟩, i3, i4, i5⟩ := cells3 P4.out
  refine hK.out _ _ ⟨m0, m1, m2, m3, m4, m5⟩ (fun hHeld => ?_)
  clear hK K
  refine norm_ (a' := ?_) ?_ ?_
  rotate_left
  · show Act.put _ (some 52) _ = _
    simp only [Act.put, List.setIfInBounds_toArray, List.set_cons_zero, List.set_cons_succ, i64_w, i32_w]
    rfl
  refine pure_ (i := 3) (N := some 54) (v := ?_) (a' := ?_) #[true, true, true, true, false, false, false, false, false, false, false, false, false, false, false, false, false, false, false, false, false, false, false, false, false, false, false, false, false, false, false, false, false, false, false, false, false, false] rfl rfl (by kernel_rfl) (fun _ _ _ h => h) (Or.inl ⟨by rfl, ?_⟩) ?_ ?_
  rotate_left
  · intro w'
    go_simp
    with_reducible rfl
  rotate_left
  · simp only [Act.put, List.setIfInBounds_toArray, List.set_cons_zero, List.set_cons_succ, i64_w, i32_w]
    rfl
  refine pure_ (i := 4) (N := some 55) (v := ?_) (a' := ?_) #[true, true, true, true, true, false, false, false, false, false, false, false, false, false, false, false, false, false, false, false, false, false, false, false, false, false, false, false, false, false, false, false, false, false, false, false, false, false] rfl rfl (by kernel_rfl) (fun _ _ _ h => h) (Or.inl ⟨by rfl, ?_⟩) ?_ ?_
  rotate_left
  · intro w'
    go_simp
    with_reducible rfl
  rotate_left
  · simp only [Act.put, List.setIfInBounds_toArray, List.set_cons_zero, List.set_cons_succ, i64_w, i32_w]
    rfl
  refine pure_ (i := 7) (N := some 58) (v := ?_) (a' := ?_) #[true, true, true, true, true, false, false, true, false, false, false, false, false, false, false, false, false, false, false, false, false, false, false, false, false, false, false, false, false, false, false, false, false, false, false, false, false, false] rfl rfl (by kernel_rfl) (fun _ _ _ h => h) (Or.inl ⟨by rfl, ?_⟩) ?_ ?_
  rotate_left
  · intro w'
    go_simp
    with_reducible rfl
  rotate_left
  · simp only [Act.put, List.setIfInBounds_toArray, List.set_cons_zero, List.set_cons_succ, i64_w, i32_w]
    rfl
  refine take_ (i := 5) (N := some 56) (v := ?_) (a' := ?_) #[true, true, true, true, true, true, false, true, false, false, false, false, false, false, false, false, false, false, false, false, false, false, false, false, false, false, false, false, false, false, false, false, false, false, false, false, false, false] rfl rfl (by kernel_rfl) (fun _ _ _ h => h) (Or.inl ⟨by rfl, ?_⟩) hHeld ?_ ?_
  rotate_left
  · rintro w' ⟨s0, s1, s2, s3, s4, s5⟩
    go_simp
    with_reducible rfl
  rotate_left
  · simp only [Act.put, List.setIfInBounds_toArray, List.set_cons_zero, List.set_cons_succ, i64_w, i32_w]
    rfl
  refine one_ (i := 6) (N := some 57) #[true, true, true, true, true, true, true, true, false, false, false, false, false, false, false, false, false, false, false, false, false, false, false, false, false, false, false, false, false, false, false, false, false, false, false, false, false, false] rfl rfl (by kernel_rfl) (by decide) (fun K hK => ?_)
  refine goes_ Try.func21 (by kernel_rfl) rfl #[.agg #[.int .i64 3, .int .i64 0, .slice (some ⟨wc.heap.size + 2, 0, none⟩) 2 2]] (by rfl) rfl rfl (by simp only [List.map_toArray, List.map_cons, List.map_nil]; rfl) ?_
  with_reducible refine (depth2 3 x y (some ⟨wc.heap.size + 2, 0, none⟩) _ dd FDg.out HG.out).mono ?_
  rintro e w_ ⟨rfl, hb_⟩
  refine ⟨_, rfl, ?_⟩
  have HB := Aside0.mk (below_step HB.out hb_)
  have X1 := Aside0.mk (blk_below X1.out hb_)
  have X2 := Aside0.mk (blk_below X2.out hb_)
  have HP := Aside0.mk (Kd.C_below HP.out hb_)
  have P2 := Aside0.mk (blk_below P2.out hb_)
  have HG := Aside0.mk (Kd.C_below HG.out hb_)
  have P4 := Aside0.mk (blk_below P4.out hb_)
  clear hb_
  clear m0 m1 m2 i0 i1 i2 m3 m4 m5 i3 i4 i5
  obtain ⟨⟨m0, m1, m2⟩, i0, i1, i2⟩ := cells3 P2.out
  obtain ⟨⟨m3, m4, m5⟩, i3, i4, i5⟩ := cells3 P4.out
  refine hK.out _ _ ⟨m0, m1, m2, m3, m4, m5⟩ (fun hHeld => ?_)
  clear hK K
  refine norm_ (a' := ?_) ?_ ?_
  rotate_left
  · show Act.put _ (some 57) _ = _
    simp only [Act.put, List.setIfInBounds_toArray, List.set_cons_zero, List.set_cons_succ, i64_w, i32_w]
    rfl
  refine pure_ (i := 8) (N := some 59) (v := ?_) (a' := ?_) #[true, true, true, true, true, true, true, true, true, false, false, false, false, false, false, false, false, false, false, false, false, false, false, false, false, false, false, false, false, false, false, false, false, false, false, false, false, false] rfl rfl (by kernel_rfl) (fun _ _ _ h => h) (Or.inl ⟨by rfl, ?_⟩) ?_ ?_
  rotate_left
  · intro w'
    go_simp
    with_reducible rfl
  rotate_left
  · simp only [Act.put, List.setIfInBounds_toArray, List.set_cons_zero, List.set_cons_succ, i64_w, i32_w]
    rfl
  refine pure_ (i := 9) (N := some 60) (v := ?_) (a' := ?_) #[true, true, true, true, true, true, true, true, true, true, false, false, false, false, false, false, false, false, false, false, false, false, false, false, false, false, false, false, false, false, false, false, false, false, false, false, false, false] rfl rfl (by kernel_rfl) (fun _ _ _ h => h) (Or.inl ⟨by rfl, ?_⟩) ?_ ?_
  rotate_left
  · intro w'
    go_simp
    with_reducible rfl
  rotate_left
  · simp only [Act.put, List.setIfInBounds_toArray, List.set_cons_zero, List.set_cons_succ, i64_w, i32_w]
    rfl
  refine pure_ (i := 10) (N := some 61) (v := ?_) (a' := ?_) #[true, true, true, true, true, true, true, true, true, true, true, false, false, false, false, false, false, false, false, false, false, false, false, false, false, false, false, false, false, false, false, false, false, false, false, false, false, false] rfl rfl (by kernel_rfl) (fun _ _ _ h => h) (Or.inl ⟨by rfl, ?_⟩) ?_ ?_
  rotate_left
  · intro w'
    go_simp
    with_reducible rfl
  rotate_left
  · simp only [Act.put, List.setIfInBounds_toArray, List.set_cons_zero, List.set_cons_succ, i64_w, i32_w]
    rfl
  refine pure_ (i := 13) (N := some 64) (v := ?_) (a' := ?_) #[true, true, true, true, true, true, true, true, true, true, true, false, false, true, false, false, false, false, false, false, false, false, false, false, false, false, false, false, false, false, false, false, false, false, false, false, false, false] rfl rfl (by kernel_rfl) (fun _ _ _ h => h) (Or.inl ⟨by rfl, ?_⟩) ?_ ?_
  rotate_left
  · intro w'
    go_simp
    with_reducible rfl
  rotate_left
  · simp only [Act.put, List.setIfInBounds_toArray, List.set_cons_zero, List.set_cons_succ, i64_w, i32_w]
    rfl
  refine take_ (i := 11) (N := some 62) (v := ?_) (a' := ?_) #[true, true, true, true, true, true, true, true, true, true, true, true, false, true, false, false, false, false, false, false, false, false, false, false, false, false, false, false, false, false, false, false, false, false, false, false, false, false] rfl rfl (by kernel_rfl) (fun _ _ _ h => h) (Or.inl ⟨by rfl, ?_⟩) hHeld ?_ ?_
  rotate_left
  · rintro w' ⟨s0, s1, s2, s3, s4, s5⟩
    go_simp
    with_reducible rfl
  rotate_left
  · simp only [Act.put, List.setIfInBounds_toArray, List.set_cons_zero, List.set_cons_succ, i64_w, i32_w]
    rfl
  refine one_ (i := 12) (N := some 63) #[true, true, true, true, true, true, true, true, true, true, true, true, true, true, false, false, false, false, false, false, false, false, false, false, false, false, false, false, false, false, false, false, false, false, false, false, false, false] rfl rfl (by kernel_rfl) (by decide) (fun K hK => ?_)
  refine goes_ Try.func23 (by kernel_rfl) rfl #[.agg #[.int .i64 2, .int .i64 0, .slice (some ⟨wc.heap.size, 0, none⟩) 2 2]] (by rfl) rfl rfl (by simp only [List.map_toArray, List.map_cons, List.map_nil]; rfl) ?_
  with_reducible refine (may2 2 x y (some ⟨wc.heap.size, 0, none⟩) _ true FMp.out HP.out).mono ?_
  rintro e w_ ⟨rfl, hb_⟩
  refine ⟨_, rfl, ?_⟩
  have HB := Aside0.mk (below_step HB.out hb_)
  have X1 := Aside0.mk (blk_below X1.out hb_)
  have X2 := Aside0.mk (blk_below X2.out hb_)
  have HP := Aside0.mk (Kd.C_below HP.out hb_)
  have P2 := Aside0.mk (blk_below P2.out hb_)
  have HG := Aside0.mk (Kd.C_below HG.out hb_)
  have P4 := Aside0.mk (blk_below P4.out hb_)
  clear hb_
  clear m0 m1 m2 i0 i1 i2 m3 m4 m5 i3 i4 i5
  obtain ⟨⟨m0, m1, m2⟩, i0, i1, i2⟩ := cells3 P2.out
  obtain ⟨⟨m3, m4, m5⟩, i3, i4, i5⟩ := cells3 P4.out
  refine hK.out _ _ ⟨m0, m1, m2, m3, m4, m5⟩ (fun hHeld => ?_)
  clear hK K
  refine norm_ (a' := ?_) ?_ ?_
  rotate_left
  · show Act.put _ (some 63) _ = _
    simp only [Act.put, List.setIfInBounds_toArray, List.set_cons_zero, List.set_cons_succ, i64_w, i32_w]
    rfl
  refine pure_ (i := 14) (N := some 65) (v := ?_) (a' := ?_) #[true, true, true, true, true, true, true, true, true, true, true, true, true, true, true, false, false, false, false, false, false, false, false, false, false, false, false, false, false, false, false, false, false, false, false, false, false, false] rfl rfl (by kernel_rfl) (fun _ _ _ h => h) (Or.inl ⟨by rfl, ?_⟩) ?_ ?_
  rotate_left
  · intro w'
    go_simp
    with_reducible rfl
  rotate_left
  · simp only [Act.put, List.setIfInBounds_toArray, List.set_cons_zero, List.set_cons_succ, i64_w, i32_w]
    rfl
  refine pure_ (i := 15) (N := some 66) (v := ?_) (a' := ?_) #[true, true, true, true, true, true, true, true, true, true, true, true, true, true, true, true, false, false, false, false, false, false, false, false, false, false, false, false, false, false, false, false, false, false, false, false, false, false] rfl rfl (by kernel_rfl) (fun _ _ _ h => h) (Or.inl ⟨by rfl, ?_⟩) ?_ ?_
  rotate_left
  · intro w'
    go_simp
    with_reducible rfl
  rotate_left
  · simp only [Act.put, List.setIfInBounds_toArray, List.set_cons_zero, List.set_cons_succ, i64_w, i32_w]
    rfl
  refine pure_ (i := 16) (N := some 67) (v := ?_) (a' := ?_) #[true, true, true, true, true, true, true, true, true, true, true, true, true, true, true, true, true, false, false, false, false, false, false, false, false, false, false, false, false, false, false, false, false, false, false, false, false, false] rfl rfl (by kernel_rfl) (fun _ _ _ h => h) (Or.inl ⟨by rfl, ?_⟩) ?_ ?_
  rotate_left
  · intro w'
    go_simp
    with_reducible rfl
  rotate_left
  · simp only [Act.put, List.setIfInBounds_toArray, List.set_cons_zero, List.set_cons_succ, i64_w, i32_w]
    rfl
  refine pure_ (i := 17) (N := some 68) (v := ?_) (a' := ?_) #[true, true, true, true, true, true, true, true, true, true, true, true, true, true, true, true, true, true, false, false, false, false, false, false, false, false, false, false, false, false, false, false, false, false, false, false, false, false] rfl rfl (by kernel_rfl) (fun _ _ _ h => h) (Or.inl ⟨by rfl, ?_⟩) ?_ ?_
  rotate_left
  · intro w'
    go_simp
    with_reducible rfl
  rotate_left
  · simp only [Act.put, List.setIfInBounds_toArray, List.set_cons_zero, List.set_cons_succ, i64_w, i32_w]
    rfl
  refine pure_ (i := 18) (N := some 69) (v := ?_) (a' := ?_) #[true, true, true, true, true, true, true, true, true, true, true, true, true, true, true, true, true, true, true, false, false, false, false, false, false, false, false, false, false, false, false, false, false, false, false, false, false, false] rfl rfl (by kernel_rfl) (fun _ _ _ h => h) (Or.inl ⟨by rfl, ?_⟩) ?_ ?_
  rotate_left
  · intro w'
    go_simp
    with_reducible rfl
  rotate_left
  · simp only [Act.put, List.setIfInBounds_toArray, List.set_cons_zero, List.set_cons_succ, i64_w, i32_w]
    rfl
  refine pure_ (i := 19) (N := some 70) (v := ?_) (a' := ?_) #[true, true, true, true, true, true, true, true, true, true, true, true, true, true, true, true, true, true, true, true, false, false, false, false, false, false, false, false, false, false, false, false, false, false, false, false, false, false] rfl rfl (by kernel_rfl) (fun _ _ _ h => h) (Or.inl ⟨by rfl, ?_⟩) ?_ ?_
  rotate_left
  · intro w'
    go_simp
    with_reducible rfl
  rotate_left
  · simp only [Act.put, List.setIfInBounds_toArray, List.set_cons_zero, List.set_cons_succ, i64_w, i32_w]
    rfl
  refine pure_ (i := 20) (N := some 71) (v := ?_) (a' := ?_) #[true, true, true, true, true, true, true, true, true, true, true, true, true, true, true, true, true, true, true, true, true, false, false, false, false, false, false, false, false, false, false, false, false, false, false, false, false, false] rfl rfl (by kernel_rfl) (fun _ _ _ h => h) (Or.inl ⟨by rfl, ?_⟩) ?_ ?_
  rotate_left
  · intro w'
    go_simp
    with_reducible rfl
  rotate_left
  · simp only [Act.put, List.setIfInBounds_toArray, List.set_cons_zero, List.set_cons_succ, i64_w, i32_w]
    rfl
  refine pure_ (i := 21) (N := some 72) (v := ?_) (a' := ?_) #[true, true, true, true, true, true, true, true, true, true, true, true, true, true, true, true, true, true, true, true, true, true, false, false, false, false, false, false, false, false, false, false, false, false, false, false, false, false] rfl rfl (by kernel_rfl) (fun _ _ _ h => h) (Or.inl ⟨by rfl, ?_⟩) ?_ ?_
  rotate_left
  · intro w'
    go_simp
    with_reducible rfl
  rotate_left
  · simp only [Act.put, List.setIfInBounds_toArray, List.set_cons_zero, List.set_cons_succ, i64_w, i32_w]
    rfl
  refine pure_ (i := 22) (N := some 73) (v := ?_) (a' := ?_) #[true, true, true, true, true, true, true, true, true, true, true, true, true, true, true, true, true, true, true, true, true, true, true, false, false, false, false, false, false, false, false, false, false, false, false, false, false, false] rfl rfl (by kernel_rfl) (fun _ _ _ h => h) (Or.inl ⟨by rfl, ?_⟩) ?_ ?_
  rotate_left
  · intro w'
    go_simp
    with_reducible rfl
  rotate_left
  · simp only [Act.put, List.setIfInBounds_toArray, List.set_cons_zero, List.set_cons_succ, i64_w, i32_w]
    rfl
  refine pure_ (i := 23) (N := some 74) (v := ?_) (a' := ?_) #[true, true, true, true, true, true, true, true, true, true, true, true, true, true, true, true, true, true, true, true, true, true, true, true, false, false, false, false, false, false, false, false, false, false, false, false, false, false] rfl rfl (by kernel_rfl) (fun _ _ _ h => h) (Or.inl ⟨by rfl, ?_⟩) ?_ ?_
  rotate_left
  · intro w'
    go_simp
    with_reducible rfl
  rotate_left
  · simp only [Act.put, List.setIfInBounds_toArray, List.set_cons_zero, List.set_cons_succ, i64_w, i32_w]
    rfl
  refine pure_ (i := 24) (N := some 75) (v := ?_) (a' := ?_) #[true, true, true, true, true, true, true, true, true, true, true, true, true, true, true, true, true, true, true, true, true, true, true, true, true, false, false, false, false, false, false, false, false, false, false, false, false, false] rfl rfl (by kernel_rfl) (fun _ _ _ h => h) (Or.inl ⟨by rfl, ?_⟩) ?_ ?_
  rotate_left
  · intro w'
    go_simp
    with_reducible rfl
  rotate_left
  · simp only [Act.put, List.setIfInBounds_toArray, List.set_cons_zero, List.set_cons_succ, i64_w, i32_w]
    rfl
  refine take_ (i := 25) (N := some 76) (v := ?_) (a' := ?_) #[true, true, true, true, true, true, true, true, true, true, true, true, true, true, true, true, true, true, true, true, true, true, true, true, true, true, false, false, false, false, false, false, false, false, false, false, false, false] rfl rfl (by kernel_rfl) (fun _ _ _ h => h) (Or.inl ⟨by rfl, ?_⟩) hHeld ?_ ?_
  rotate_left
  · rintro w' ⟨s0, s1, s2, s3, s4, s5⟩
    go_simp
    with_reducible rfl
  rotate_left
  · simp only [Act.put, List.setIfInBounds_toArray, List.set_cons_zero, List.set_cons_succ, i64_w, i32_w]
    rfl
  refine take_ (i := 27) (N := some 78) (v := ?_) (a' := ?_) #[true, true, true, true, true, true, true, true, true, true, true, true, true, true, true, true, true, true, true, true, true, true, true, true, true, true, false, true, false, false, false, false, false, false, false, false, false, false] rfl rfl (by kernel_rfl) (fun _ _ _ h => h) (Or.inl ⟨by rfl, ?_⟩) hHeld ?_ ?_
  rotate_left
  · rintro w' ⟨s0, s1, s2, s3, s4, s5⟩
    go_simp
    with_reducible rfl
  rotate_left
  · simp only [Act.put, List.setIfInBounds_toArray, List.set_cons_zero, List.set_cons_succ, i64_w, i32_w]
    rfl
  refine one_ (i := 26) (N := some 77) #[true, true, true, true, true, true, true, true, true, true, true, true, true, true, true, true, true, true, true, true, true, true, true, true, true, true, true, true, false, false, false, false, false, false, false, false, false, false] rfl rfl (by kernel_rfl) (by decide) (fun K hK => ?_)
  refine goes_ Try.func23 (by kernel_rfl) rfl #[.agg #[.int .i64 2, .int .i64 0, .slice (some ⟨wc.heap.size, 0, none⟩) 2 2]] (by rfl) rfl rfl (by simp only [List.map_toArray, List.map_cons, List.map_nil]; rfl) ?_
  with_reducible refine (may2 2 x y (some ⟨wc.heap.size, 0, none⟩) _ true FMp.out HP.out).mono ?_
  rintro e w_ ⟨rfl, hb_⟩
  refine ⟨_, rfl, ?_⟩
  have HB := Aside0.mk (below_step HB.out hb_)
  have X1 := Aside0.mk (blk_below X1.out hb_)
  have X2 := Aside0.mk (blk_below X2.out hb_)
  have HP := Aside0.mk (Kd.C_below HP.out hb_)
  have P2 := Aside0.mk (blk_below P2.out hb_)
  have HG := Aside0.mk (Kd.C_below HG.out hb_)
  have P4 := Aside0.mk (blk_below P4.out hb_)
  clear hb_
  clear m0 m1 m2 i0 i1 i2 m3 m4 m5 i3 i4 i5
  obtain ⟨⟨m0, m1, m2⟩, i0, i1, i2⟩ := cells3 P2.out
  obtain ⟨⟨m3, m4, m5⟩, i3, i4, i5⟩ := cells3 P4.out
  refine hK.out _ _ ⟨m0, m1, m2, m3, m4, m5⟩ (fun hHeld => ?_)
  clear hK K
  refine norm_ (a' := ?_) ?_ ?_
  rotate_left
  · show Act.put _ (some 77) _ = _
    simp only [Act.put, List.setIfInBounds_toArray, List.set_cons_zero, List.set_cons_succ, i64_w, i32_w]
    rfl
  refine one_ (i := 28) (N := some 79) #[true, true, true, true, true, true, true, true, true, true, true, true, true, true, true, true, true, true, true, true, true, true, true, true, true, true, true, true, true, false, false, false, false, false, false, false, false, false] rfl rfl (by kernel_rfl) (by decide) (fun K hK => ?_)
  refine goes_ Try.func23 (by kernel_rfl) rfl #[.agg #[.int .i64 3, .int .i64 0, .slice (some ⟨wc.heap.size + 2, 0, none⟩) 2 2]] (by rfl) rfl rfl (by simp only [List.map_toArray, List.map_cons, List.map_nil]; rfl) ?_
  with_reducible refine (may2 3 x y (some ⟨wc.heap.size + 2, 0, none⟩) _ true FMg.out HG.out).mono ?_
  rintro e w_ ⟨rfl, hb_⟩
  refine ⟨_, rfl, ?_⟩
  have HB := Aside0.mk (below_step HB.out hb_)
  have X1 := Aside0.mk (blk_below X1.out hb_)
  have X2 := Aside0.mk (blk_below X2.out hb_)
  have HP := Aside0.mk (Kd.C_below HP.out hb_)
  have P2 := Aside0.mk (blk_below P2.out hb_)
  have HG := Aside0.mk (Kd.C_below HG.out hb_)
  have P4 := Aside0.mk (blk_below P4.out hb_)
  clear hb_
  clear m0 m1 m2 i0 i1 i2 m3 m4 m5 i3 i4 i5
  obtain ⟨⟨m0, m1, m2⟩, i0, i1, i2⟩ := cells3 P2.out
  obtain ⟨⟨m3, m4, m5⟩, i3, i4, i5⟩ := cells3 P4.out
  refine hK.out _ _ ⟨m0, m1, m2, m3, m4, m5⟩ (fun hHeld => ?_)
  clear hK K
  refine norm_ (a' := ?_) ?_ ?_
  rotate_left
  · show Act.put _ (some 79) _ = _
    simp only [Act.put, List.setIfInBounds_toArray, List.set_cons_zero, List.set_cons_succ, i64_w, i32_w]
    rfl
  refine pure_ (i := 29) (N := some 80) (v := ?_) (a' := ?_) #[true, true, true, true, true, true, true, true, true, true, true, true, true, true, true, true, true, true, true, true, true, true, true, true, true, true, true, true, true, true, false, false, false, false, false, false, false, false] rfl rfl (by kernel_rfl) (fun _ _ _ h => h) (Or.inl ⟨by rfl, ?_⟩) ?_ ?_
  rotate_left
  · intro w'
    go_simp
    with_reducible rfl
  rotate_left
  · simp only [Act.put, List.setIfInBounds_toArray, List.set_cons_zero, List.set_cons_succ, i64_w, i32_w]
    rfl
  refine pure_ (i := 30) (N := some 81) (v := ?_) (a' := ?_) #[true, true, true, true, true, true, true, true, true, true, true, true, true, true, true, true, true, true, true, true, true, true, true, true, true, true, true, true, true, true, true, false, false, false, false, false, false, false] rfl rfl (by kernel_rfl) (fun _ _ _ h => h) (Or.inl ⟨by rfl, ?_⟩) ?_ ?_
  rotate_left
  · intro w'
    go_simp
    with_reducible rfl
  rotate_left
  · simp only [Act.put, List.setIfInBounds_toArray, List.set_cons_zero, List.set_cons_succ, i64_w, i32_w]
    rfl
  refine pure_ (i := 31) (N := some 82) (v := ?_) (a' := ?_) #[true, true, true, true, true, true, true, true, true, true, true, true, true, true, true, true, true, true, true, true, true, true, true, true, true, true, true, true, true, true, true, true, false, false, false, false, false, false] rfl rfl (by kernel_rfl) (fun _ _ _ h => h) (Or.inl ⟨by rfl, ?_⟩) ?_ ?_
  rotate_left
  · intro w'
    go_simp
    with_reducible rfl
  rotate_left
  · simp only [Act.put, List.setIfInBounds_toArray, List.set_cons_zero, List.set_cons_succ, i64_w, i32_w]
    rfl
  refine take_ (i := 32) (N := some 83) (v := ?_) (a' := ?_) #[true, true, true, true, true, true, true, true, true, true, true, true, true, true, true, true, true, true, true, true, true, true, true, true, true, true, true, true, true, true, true, true, true, false, false, false, false, false] rfl rfl (by kernel_rfl) (fun _ _ _ h => h) (Or.inl ⟨by rfl, ?_⟩) hHeld ?_ ?_
  rotate_left
  · rintro w' ⟨s0, s1, s2, s3, s4, s5⟩
    go_simp
    with_reducible rfl
  rotate_left
  · simp only [Act.put, List.setIfInBounds_toArray, List.set_cons_zero, List.set_cons_succ, i64_w, i32_w]
    rfl
  refine take_ (i := 33) (N := some 84) (v := ?_) (a' := ?_) #[true, true, true, true, true, true, true, true, true, true, true, true, true, true, true, true, true, true, true, true, true, true, true, true, true, true, true, true, true, true, true, true, true, true, false, false, false, false] rfl rfl (by kernel_rfl) (fun _ _ _ h => h) (Or.inl ⟨by rfl, ?_⟩) hHeld ?_ ?_
  rotate_left
  · rintro w' ⟨s0, s1, s2, s3, s4, s5⟩
    go_simp
    with_reducible rfl
  rotate_left
  · simp only [Act.put, List.setIfInBounds_toArray, List.set_cons_zero, List.set_cons_succ, i64_w, i32_w]
    rfl
  refine one_ (i := 34) (N := some 85) #[true, true, true, true, true, true, true, true, true, true, true, true, true, true, true, true, true, true, true, true, true, true, true, true, true, true, true, true, true, true, true, true, true, true, true, false, false, false] rfl rfl (by kernel_rfl) (by decide) (fun K hK => ?_)
  refine goes_ Try.func24 (by kernel_rfl) rfl #[.agg #[.int .i64 2, .int .i64 0, .slice (some ⟨wc.heap.size, 0, none⟩) 2 2], .agg #[.int .i64 3, .int .i64 0, .slice (some ⟨wc.heap.size + 2, 0, none⟩) 2 2]] (by rfl) rfl rfl (by simp only [List.map_toArray, List.map_cons, List.map_nil]; rfl) ?_
  with_reducible refine (same2 2 x y (some ⟨wc.heap.size, 0, none⟩) _ 3 (some ⟨wc.heap.size + 2, 0, none⟩) false FSa.out HP.out HG.out).mono ?_
  rintro e w_ ⟨rfl, hb_⟩
  refine ⟨_, rfl, ?_⟩
  have HB := Aside0.mk (below_step HB.out hb_)
  have X1 := Aside0.mk (blk_below X1.out hb_)
  have X2 := Aside0.mk (blk_below X2.out hb_)
  have HP := Aside0.mk (Kd.C_below HP.out hb_)
  have P2 := Aside0.mk (blk_below P2.out hb_)
  have HG := Aside0.mk (Kd.C_below HG.out hb_)
  have P4 := Aside0.mk (blk_below P4.out hb_)
  clear hb_
  clear m0 m1 m2 i0 i1 i2 m3 m4 m5 i3 i4 i5
  obtain ⟨⟨m0, m1, m2⟩, i0, i1, i2⟩ := cells3 P2.out
  obtain ⟨⟨m3, m4, m5⟩, i3, i4, i5⟩ := cells3 P4.out
  refine hK.out _ _ ⟨m0, m1, m2, m3, m4, m5⟩ (fun hHeld => ?_)
  clear hK K
  refine norm_ (a' := ?_) ?_ ?_
  rotate_left
  · show Act.put _ (some 85) _ = _
    simp only [Act.put, List.setIfInBounds_toArray, List.set_cons_zero, List.set_cons_succ, i64_w, i32_w]
    rfl
  refine pure_ (i := 35) (N := some 86) (v := ?_) (a' := ?_) #[true, true, true, true, true, true, true, true, true, true, true, true, true, true, true, true, true, true, true, true, true, true, true, true, true, true, true, true, true, true, true, true, true, true, true, true, false, false] rfl rfl (by kernel_rfl) (fun _ _ _ h => h) (Or.inl ⟨by rfl, ?_⟩) ?_ ?_
  rotate_left
  · intro w'
    go_simp
    with_reducible rfl
  rotate_left
  · simp only [Act.put, List.setIfInBounds_toArray, List.set_cons_zero, List.set_cons_succ, i64_w, i32_w]
    rfl
  refine pure_ (i := 36) (N := some 87) (v := ?_) (a' := ?_) #[true, true, true, true, true, true, true, true, true, true, true, true, true, true, true, true, true, true, true, true, true, true, true, true, true, true, true, true, true, true, true, true, true, true, true, true, true, false] rfl rfl (by kernel_rfl) (fun _ _ _ h => h) (Or.inl ⟨by rfl, ?_⟩) ?_ ?_
  rotate_left
  · intro w'
    go_simp
    with_reducible rfl
  rotate_left
  · simp only [Act.put, List.setIfInBounds_toArray, List.set_cons_zero, List.set_cons_succ, i64_w, i32_w]
    rfl
  refine pure_ (i := 37) (N := some 4) (v := ?_) (a' := ?_) #[true, true, true, true, true, true, true, true, true, true, true, true, true, true, true, true, true, true, true, true, true, true, true, true, true, true, true, true, true, true, true, true, true, true, true, true, true, true] rfl rfl (by kernel_rfl) (fun _ _ _ h => h) (Or.inl ⟨by rfl, ?_⟩) ?_ ?_
  rotate_left
  · intro w'
    go_simp
    with_reducible rfl
  rotate_left
  · simp only [Act.put, List.setIfInBounds_toArray, List.set_cons_zero, List.set_cons_succ, i64_w, i32_w]
    rfl
  refine done_ (by kernel_rfl) ?_

  all_goals go_wp2
  all_goals (try go_ret)
  all_goals first
    | exact ⟨rfl, HB.out⟩
    | (trace_state; sorry)
theorem lsize_two (x y : S24) : lsize [x, y] = tsize x + tsize y := by simp [lsize]
theorem pelicanlaw05_TermPair_in (x y : S24) (A B : Option Addr) (c d : Nat) (w : World) (hx : Kd.C k24 w A x.f2.length x.f2) (hcx : x.f2.length ≤ c) (hy : Kd.C k24 w B y.f2.length y.f2) (hcy : y.f2.length ≤ d) :
    Calls Try.prog 6 #[.agg #[.int .i64 x.f0, .int .i64 x.f1, .slice A x.f2.length c], .agg #[.int .i64 y.f0, .int .i64 y.f1, .slice B y.f2.length d]] w fun e w' => e = .returned (.bool true) ∧ Below w.heap.size w w' := by
  obtain ⟨q1, hq1⟩ := Ev.rounds (nodes_ev x 60 15 (by omega) (by omega) (by omega) (by omega))
  obtain ⟨q2, hq2⟩ := Ev.rounds (nodes_ev y 60 15 (by omega) (by omega) (by omega) (by omega))
  have px := tsize_pos x
  have py := tsize_pos y
  have dx := tdep_pos x
  have dy := tdep_pos y
  by_cases hsx : (tsize x : Int) ≤ 60 ∧ (tdep x : Int) ≤ 15
  · by_cases hsy : (tsize y : Int) ≤ 60 ∧ (tdep y : Int) ≤ 15
    · have v1 : nodV x 60 15 ≤ 60 := by unfold nodV; rw [if_pos hsx]; exact hsx.1
      have v2 : nodV y 60 15 ≤ 60 := by unfold nodV; rw [if_pos hsy]; exact hsy.1
      have F1 := size_f x (by omega)
      have F2 := size_f y (by omega)
      have F3 := depth_f x (by omega)
      have F4 := depth_f y (by omega)
      have F5 := may_f x (by omega)
      have F6 := may_f y (by omega)
      have tp : ∀ k : Int, tsize ⟨k, 0, [x, y]⟩ = tsize x + tsize y + 1 := fun k => by rw [tsize, lsize_two]
      have dp : ∀ k : Int, tdep ⟨k, 0, [x, y]⟩ = max (tdep x) (tdep y) + 1 := fun k => by rw [tdep, ldep, ldep, ldep]; omega
      have F7 := size_f ⟨2, 0, [x, y]⟩ (by rw [tp]; omega)
      have F8 := depth_f ⟨3, 0, [x, y]⟩ (by rw [tp]; omega)
      have F9 := may_f ⟨2, 0, [x, y]⟩ (by rw [tp]; omega)
      have F10 := may_f ⟨3, 0, [x, y]⟩ (by rw [tp]; omega)
      have F11 : term_Same.f 2 0 [x, y] 3 0 [x, y] = some false := by unfold term_Same.f; rw [sameT_eq]; rfl
      rw [tp] at F7
      rw [dp] at F8
      have mp : ∀ k : Int, k = 2 ∨ k = 3 → mayT ⟨k, 0, [x, y]⟩ = (okT x && okT y && decide (tsize x + tsize y + 1 ≤ 60) && decide (max (tdep x) (tdep y) + 1 ≤ 12)) := fun k hk => by
        unfold mayT
        rw [tp, dp, okT, okL, okL, okL]
        have hn : nodeB k 0 [x, y].length = true := by rcases hk with rfl | rfl <;> rfl
        rw [hn, Bool.true_and, Bool.and_true, Bool.and_assoc, Bool.and_assoc]
        simp only [Bool.and_assoc]
      rw [mp 2 (Or.inl rfl)] at F9
      rw [mp 3 (Or.inr rfl)] at F10
      have mx : ∀ z : S24, (tsize z : Int) ≤ 60 → (tdep z : Int) ≤ 12 → mayT z = okT z := fun z h1 h2 => by
        unfold mayT; rw [decide_eq_true (show tsize z ≤ 60 by omega), decide_eq_true (show tdep z ≤ 12 by omega)]; simp
      have e3 : IntKind.i64.wrap ((tsize x : Int) + (tsize y : Int)) = (tsize x : Int) + (tsize y : Int) := IntWalk.i64_in _ (by omega)
      have e4 : IntKind.i64.wrap ((tsize x : Int) + (tsize y : Int) + 1) = ((tsize x + tsize y + 1 : Nat) : Int) := by rw [IntWalk.i64_in _ (by omega)]; omega
      have e5 : IntKind.i64.wrap (1 + max (tdep x : Int) (tdep y : Int)) = ((max (tdep x) (tdep y) + 1 : Nat) : Int) := by rw [IntWalk.i64_in _ (by omega)]; omega
      cases hbx : mayT x with
      | false =>
        have hb : (okT x && okT y && decide (tsize x + tsize y + 1 ≤ 60) && decide (max (tdep x) (tdep y) + 1 ≤ 12)) = false := by
          by_cases hd : (max (tdep x) (tdep y) + 1 ≤ 12)
          · rw [mx x hsx.1 (by omega)] at hbx; rw [hbx]; rfl
          · rw [decide_eq_false hd, Bool.and_false]
        rw [hb] at F9 F10
        rw [hbx] at F5
        exact pair_f x y A B c d w hx hcx hy hcy q1 q2 _ _ _ _ _ _ _ _ _ F1 F2 F3 F4 F5 F7 F8 F9 F10 F11 hq1 hq2 v1 v2 e3 e4 e5
      | true =>
        have ox : okT x = true := by unfold mayT at hbx; simp only [Bool.and_eq_true] at hbx; exact hbx.1
        rw [hbx] at F5
        cases hby : mayT y with
        | false =>
          have hb : (okT x && okT y && decide (tsize x + tsize y + 1 ≤ 60) && decide (max (tdep x) (tdep y) + 1 ≤ 12)) = false := by
            by_cases hd : (max (tdep x) (tdep y) + 1 ≤ 12)
            · rw [mx y hsy.1 (by omega)] at hby; rw [hby, Bool.and_false]; rfl
            · rw [decide_eq_false hd, Bool.and_false]
          rw [hb] at F9 F10
          rw [hby] at F6
          exact pair_tf x y A B c d w hx hcx hy hcy q1 q2 _ _ _ _ _ _ _ _ _ F1 F2 F3 F4 F5 F6 F7 F8 F9 F10 F11 hq1 hq2 v1 v2 e3 e4 e5
        | true =>
          have oy : okT y = true := by unfold mayT at hby; simp only [Bool.and_eq_true] at hby; exact hby.1
          rw [hby] at F6
          rw [ox, oy] at F9 F10
          by_cases hn : tsize x + tsize y + 1 ≤ 60
          · by_cases hd : max (tdep x) (tdep y) + 1 ≤ 12
            · rw [decide_eq_true hn, decide_eq_true hd] at F9 F10
              exact pair_tttt x y A B c d w hx hcx hy hcy q1 q2 _ _ _ _ _ _ _ _ _ F1 F2 F3 F4 F5 F6 F7 F8 F9 F10 F11 hq1 hq2 v1 v2 e3 e4 e5 (decide_eq_true (by omega)) (decide_eq_true (by omega))
            · rw [decide_eq_true hn, decide_eq_false hd] at F9 F10
              exact pair_tttf x y A B c d w hx hcx hy hcy q1 q2 _ _ _ _ _ _ _ _ _ F1 F2 F3 F4 F5 F6 F7 F8 F9 F10 F11 hq1 hq2 v1 v2 e3 e4 e5 (decide_eq_true (by omega)) (decide_eq_false (by omega))
          · rw [decide_eq_false hn] at F9 F10
            exact pair_ttf x y A B c d w hx hcx hy hcy q1 q2 _ _ _ _ _ _ _ _ _ F1 F2 F3 F4 F5 F6 F7 F8 F9 F10 F11 hq1 hq2 v1 v2 e3 e4 e5 (decide_eq_false (by omega))
    · exact pair_no2 x y A B c d w hx hcx hy hcy q1 q2 _ _ hq1 hq2 (by unfold nodV; rw [if_pos hsx]; exact hsx.1) (by unfold nodV; rw [if_neg hsy]; omega)
  · exact pair_no1 x y A B c d w hx hcx hy hcy q1 q2 _ _ hq1 hq2 (by unfold nodV; rw [if_neg hsx]; omega)
def pelicanlaw05_TermPair.f (a0_0 : Int) (a0_1 : Int) (l0_2 : List (S24)) (a1_0 : Int) (a1_1 : Int) (l1_2 : List (S24)) : Option (Bool) := some true
theorem pelicanlaw05_TermPair.calls (a0_0 : Int) (a0_1 : Int) (A0_2 : Option Addr) (c0_2 : Nat) (l0_2 : List (S24)) (a1_0 : Int) (a1_1 : Int) (A1_2 : Option Addr) (c1_2 : Nat) (l1_2 : List (S24)) (r : Bool) (w : World) (hr0_2 : Kd.C k24 w A0_2 l0_2.length l0_2) (hc0_2 : l0_2.length ≤ c0_2) (hr1_2 : Kd.C k24 w A1_2 l1_2.length l1_2) (hc1_2 : l1_2.length ≤ c1_2) (h : pelicanlaw05_TermPair.f a0_0 a0_1 l0_2 a1_0 a1_1 l1_2 = some r) (hr_0 : r = true) :
    Calls Try.prog 6 #[.agg #[.int .i64 a0_0, .int .i64 a0_1, .slice A0_2 l0_2.length c0_2], .agg #[.int .i64 a1_0, .int .i64 a1_1, .slice A1_2 l1_2.length c1_2]] w fun e w' => e = .returned (.bool r) ∧ Below w.heap.size w w' := by
  subst hr_0
  exact pelicanlaw05_TermPair_in ⟨a0_0, a0_1, l0_2⟩ ⟨a1_0, a1_1, l1_2⟩ A0_2 A1_2 c0_2 c1_2 w hr0_2 hc0_2 hr1_2 hc1_2
end Go.Proofs.Ytmmmmedcgmcoaaa.P

