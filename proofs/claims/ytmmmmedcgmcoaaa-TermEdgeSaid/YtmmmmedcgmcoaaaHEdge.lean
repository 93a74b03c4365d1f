/- By hand: the law TermEdge's walk. -/
import Derived.Test.YtmmmmedcgmcoaaaHPair
namespace Go.Proofs.Ytmmmmedcgmcoaaa.P
open Go.RowKit Go.Proofs.YtmmmmedcgmcoaaaW.PrintWords Go.Proofs.YtmmmmedcgmcoaaaW.PrintLast Go.Proofs.YtmmmmedcgmcoaaaW.PrintMore
set_option linter.unusedVariables false
set_option linter.unusedSimpArgs false
section
variable (k n : Int) (l : List S24) (m c : Nat) (Ad : Option Addr) (w : World)
theorem may_n (r : Bool) (h : term_May.f k n l = some r) (hm : l.length = m) (hc : m ≤ c) (hC : Kd.C k24 w Ad m l) :
    Calls Try.prog 23 #[.agg #[.int .i64 k, .int .i64 n, .slice Ad m c]] w fun e w' => e = .returned (.bool r) ∧ Below w.heap.size w w' := by subst hm; exact term_May.calls k n Ad c l r w hC hc h
theorem size_n (r : Int) (h : term_Size.f k n l = some r) (hm : l.length = m) (hc : m ≤ c) (hC : Kd.C k24 w Ad m l) :
    Calls Try.prog 19 #[.agg #[.int .i64 k, .int .i64 n, .slice Ad m c]] w fun e w' => e = .returned (.int .i64 r) ∧ Below w.heap.size w w' := by subst hm; exact term_Size.calls k n Ad c l r w hC hc h
theorem depth_n (r : Int) (h : term_Depth.f k n l = some r) (hm : l.length = m) (hc : m ≤ c) (hC : Kd.C k24 w Ad m l) :
    Calls Try.prog 21 #[.agg #[.int .i64 k, .int .i64 n, .slice Ad m c]] w fun e w' => e = .returned (.int .i64 r) ∧ Below w.heap.size w w' := by subst hm; exact term_Depth.calls k n Ad c l r w hC hc h
end
theorem rep_snoc (x : S24) (i : Nat) : List.replicate i x ++ [x] = List.replicate (i + 1) x := by rw [List.replicate_succ']
def isB (kind n : Int) (m : Nat) : Bool := (decide (0 ≤ kind) && decide (kind ≤ 1) && decide (0 ≤ n) && decide (m = 0)) || (decide (2 ≤ kind) && decide (kind ≤ 3) && decide (n = 0) && decide (m = 2))
theorem isB_node (kind n : Int) (m : Nat) : nodeB kind n m = isB kind n m := by
  unfold nodeB isB
  rw [Bool.eq_iff_iff]
  by_cases h : kind = 0 ∨ kind = 1
  · rw [if_pos h]; simp; omega
  · rw [if_neg h]
    by_cases h2 : kind = 2 ∨ kind = 3
    · rw [if_pos h2]; simp; omega
    · rw [if_neg h2]; simp; omega
set_option maxRecDepth 100000 in
set_option maxHeartbeats 4000000 in
theorem edge_o1 (x : S24) (A : Option Addr) (c : Nat) (kind n many : Int) (w : World) (hx : Kd.C k24 w A x.f2.length x.f2) (hcx : x.f2.length ≤ c) (q1 : Nat) (r1 : Int) (b : Bool) (h1 : pelicanref05_Nodes.f q1 x.f0 x.f1 x.f2 20 10 = some r1) (h2 : term_May.f x.f0 x.f1 x.f2 = some b) (d1 : 20 < r1) :
    Calls Try.prog 8 #[.agg #[.int .i64 x.f0, .int .i64 x.f1, .slice A x.f2.length c], .int .i64 kind, .int .i64 n, .int .i64 many] w fun e w' => e = .returned (.bool true) ∧ Below w.heap.size w w' := by
  have HX := Aside0.mk hx
  have HCX := Aside0.mk hcx
  clear hx hcx
  have F1 := Aside0.mk h1
  have F2 := Aside0.mk h2
  clear h1 h2
  go_enter Try.func8, Try.ntmps8
  go_wp2_with (first
    | (go_at_call 9; (with_reducible refine (pelicanlaw05_awake.calls true _ rfl).mono ?_); rintro e w_ ⟨rfl, hb_⟩; have X1 := Aside0.mk (blk_below (blk_new w (.cells #[.int .i64 x.f0, .int .i64 x.f1, .slice A x.f2.length c] 24 (0, 0))) hb_); have HB := Aside0.mk (below_step (below_alloc (Below.refl w.heap.size w) (.cells #[.int .i64 x.f0, .int .i64 x.f1, .slice A x.f2.length c] 24 (0, 0))) hb_); clear hb_; obtain ⟨⟨k0, k1, k2⟩, j0, j1, j2⟩ := cells3 X1.out)
    | (go_at_call 25; (with_reducible refine (pelicanref05_Nodes.calls q1 x.f0 x.f1 A c x.f2 20 10 r1 _ (Kd.C_below HX.out HB.out) HCX.out F1.out).mono ?_); rintro e w_ ⟨rfl, hb_⟩; clear k0 k1 k2 j0 j1 j2; have HB := Aside0.mk (below_step HB.out hb_); have X1 := Aside0.mk (blk_below X1.out hb_); obtain ⟨⟨k0, k1, k2⟩, j0, j1, j2⟩ := cells3 X1.out; clear hb_)
    | (go_at_call 23; (with_reducible refine (term_May.calls x.f0 x.f1 A c x.f2 b _ (Kd.C_below HX.out HB.out) HCX.out F2.out).mono ?_); rintro e w_ ⟨rfl, hb_⟩; clear k0 k1 k2 j0 j1 j2; have HB := Aside0.mk (below_step HB.out hb_); have X1 := Aside0.mk (blk_below X1.out hb_); obtain ⟨⟨k0, k1, k2⟩, j0, j1, j2⟩ := cells3 X1.out; clear hb_))
  go_ret
  exact ⟨rfl, HB.out⟩
set_option maxRecDepth 100000 in
set_option maxHeartbeats 4000000 in
theorem edge_o2 (x : S24) (A : Option Addr) (c : Nat) (kind n many : Int) (w : World) (hx : Kd.C k24 w A x.f2.length x.f2) (hcx : x.f2.length ≤ c) (q1 : Nat) (r1 : Int) (b : Bool) (h1 : pelicanref05_Nodes.f q1 x.f0 x.f1 x.f2 20 10 = some r1) (h2 : term_May.f x.f0 x.f1 x.f2 = some b) (d1 : r1 ≤ 20) (d2 : many < 0) :
    Calls Try.prog 8 #[.agg #[.int .i64 x.f0, .int .i64 x.f1, .slice A x.f2.length c], .int .i64 kind, .int .i64 n, .int .i64 many] w fun e w' => e = .returned (.bool true) ∧ Below w.heap.size w w' := by
  have HX := Aside0.mk hx
  have HCX := Aside0.mk hcx
  clear hx hcx
  have F1 := Aside0.mk h1
  have F2 := Aside0.mk h2
  clear h1 h2
  go_enter Try.func8, Try.ntmps8
  go_wp2_with (first
    | (go_at_call 9; (with_reducible refine (pelicanlaw05_awake.calls true _ rfl).mono ?_); rintro e w_ ⟨rfl, hb_⟩; have X1 := Aside0.mk (blk_below (blk_new w (.cells #[.int .i64 x.f0, .int .i64 x.f1, .slice A x.f2.length c] 24 (0, 0))) hb_); have HB := Aside0.mk (below_step (below_alloc (Below.refl w.heap.size w) (.cells #[.int .i64 x.f0, .int .i64 x.f1, .slice A x.f2.length c] 24 (0, 0))) hb_); clear hb_; obtain ⟨⟨k0, k1, k2⟩, j0, j1, j2⟩ := cells3 X1.out)
    | (go_at_call 25; (with_reducible refine (pelicanref05_Nodes.calls q1 x.f0 x.f1 A c x.f2 20 10 r1 _ (Kd.C_below HX.out HB.out) HCX.out F1.out).mono ?_); rintro e w_ ⟨rfl, hb_⟩; clear k0 k1 k2 j0 j1 j2; have HB := Aside0.mk (below_step HB.out hb_); have X1 := Aside0.mk (blk_below X1.out hb_); obtain ⟨⟨k0, k1, k2⟩, j0, j1, j2⟩ := cells3 X1.out; clear hb_)
    | (go_at_call 23; (with_reducible refine (term_May.calls x.f0 x.f1 A c x.f2 b _ (Kd.C_below HX.out HB.out) HCX.out F2.out).mono ?_); rintro e w_ ⟨rfl, hb_⟩; clear k0 k1 k2 j0 j1 j2; have HB := Aside0.mk (below_step HB.out hb_); have X1 := Aside0.mk (blk_below X1.out hb_); obtain ⟨⟨k0, k1, k2⟩, j0, j1, j2⟩ := cells3 X1.out; clear hb_))
  go_ret
  exact ⟨rfl, HB.out⟩
set_option maxRecDepth 100000 in
set_option maxHeartbeats 4000000 in
theorem edge_o3 (x : S24) (A : Option Addr) (c : Nat) (kind n many : Int) (w : World) (hx : Kd.C k24 w A x.f2.length x.f2) (hcx : x.f2.length ≤ c) (q1 : Nat) (r1 : Int) (b : Bool) (h1 : pelicanref05_Nodes.f q1 x.f0 x.f1 x.f2 20 10 = some r1) (h2 : term_May.f x.f0 x.f1 x.f2 = some b) (d1 : r1 ≤ 20) (d2 : 0 ≤ many) (d3 : 3 < many) :
    Calls Try.prog 8 #[.agg #[.int .i64 x.f0, .int .i64 x.f1, .slice A x.f2.length c], .int .i64 kind, .int .i64 n, .int .i64 many] w fun e w' => e = .returned (.bool true) ∧ Below w.heap.size w w' := by
  have HX := Aside0.mk hx
  have HCX := Aside0.mk hcx
  clear hx hcx
  have F1 := Aside0.mk h1
  have F2 := Aside0.mk h2
  clear h1 h2
  go_enter Try.func8, Try.ntmps8
  go_wp2_with (first
    | (go_at_call 9; (with_reducible refine (pelicanlaw05_awake.calls true _ rfl).mono ?_); rintro e w_ ⟨rfl, hb_⟩; have X1 := Aside0.mk (blk_below (blk_new w (.cells #[.int .i64 x.f0, .int .i64 x.f1, .slice A x.f2.length c] 24 (0, 0))) hb_); have HB := Aside0.mk (below_step (below_alloc (Below.refl w.heap.size w) (.cells #[.int .i64 x.f0, .int .i64 x.f1, .slice A x.f2.length c] 24 (0, 0))) hb_); clear hb_; obtain ⟨⟨k0, k1, k2⟩, j0, j1, j2⟩ := cells3 X1.out)
    | (go_at_call 25; (with_reducible refine (pelicanref05_Nodes.calls q1 x.f0 x.f1 A c x.f2 20 10 r1 _ (Kd.C_below HX.out HB.out) HCX.out F1.out).mono ?_); rintro e w_ ⟨rfl, hb_⟩; clear k0 k1 k2 j0 j1 j2; have HB := Aside0.mk (below_step HB.out hb_); have X1 := Aside0.mk (blk_below X1.out hb_); obtain ⟨⟨k0, k1, k2⟩, j0, j1, j2⟩ := cells3 X1.out; clear hb_)
    | (go_at_call 23; (with_reducible refine (term_May.calls x.f0 x.f1 A c x.f2 b _ (Kd.C_below HX.out HB.out) HCX.out F2.out).mono ?_); rintro e w_ ⟨rfl, hb_⟩; clear k0 k1 k2 j0 j1 j2; have HB := Aside0.mk (below_step HB.out hb_); have X1 := Aside0.mk (blk_below X1.out hb_); obtain ⟨⟨k0, k1, k2⟩, j0, j1, j2⟩ := cells3 X1.out; clear hb_))
  go_ret
  exact ⟨rfl, HB.out⟩
set_option maxRecDepth 100000 in
set_option maxHeartbeats 4000000 in
theorem edge_o4 (x : S24) (A : Option Addr) (c : Nat) (kind n many : Int) (w : World) (hx : Kd.C k24 w A x.f2.length x.f2) (hcx : x.f2.length ≤ c) (q1 : Nat) (r1 : Int) (b : Bool) (h1 : pelicanref05_Nodes.f q1 x.f0 x.f1 x.f2 20 10 = some r1) (h2 : term_May.f x.f0 x.f1 x.f2 = some false) (d1 : r1 ≤ 20) (d2 : 0 ≤ many) (d3 : many ≤ 3) :
    Calls Try.prog 8 #[.agg #[.int .i64 x.f0, .int .i64 x.f1, .slice A x.f2.length c], .int .i64 kind, .int .i64 n, .int .i64 many] w fun e w' => e = .returned (.bool true) ∧ Below w.heap.size w w' := by
  have HX := Aside0.mk hx
  have HCX := Aside0.mk hcx
  clear hx hcx
  have F1 := Aside0.mk h1
  have F2 := Aside0.mk h2
  clear h1 h2
  go_enter Try.func8, Try.ntmps8
  go_wp2_with (first
    | (go_at_call 9; (with_reducible refine (pelicanlaw05_awake.calls true _ rfl).mono ?_); rintro e w_ ⟨rfl, hb_⟩; have X1 := Aside0.mk (blk_below (blk_new w (.cells #[.int .i64 x.f0, .int .i64 x.f1, .slice A x.f2.length c] 24 (0, 0))) hb_); have HB := Aside0.mk (below_step (below_alloc (Below.refl w.heap.size w) (.cells #[.int .i64 x.f0, .int .i64 x.f1, .slice A x.f2.length c] 24 (0, 0))) hb_); clear hb_; obtain ⟨⟨k0, k1, k2⟩, j0, j1, j2⟩ := cells3 X1.out)
    | (go_at_call 25; (with_reducible refine (pelicanref05_Nodes.calls q1 x.f0 x.f1 A c x.f2 20 10 r1 _ (Kd.C_below HX.out HB.out) HCX.out F1.out).mono ?_); rintro e w_ ⟨rfl, hb_⟩; clear k0 k1 k2 j0 j1 j2; have HB := Aside0.mk (below_step HB.out hb_); have X1 := Aside0.mk (blk_below X1.out hb_); obtain ⟨⟨k0, k1, k2⟩, j0, j1, j2⟩ := cells3 X1.out; clear hb_)
    | (go_at_call 23; (with_reducible refine (term_May.calls x.f0 x.f1 A c x.f2 false _ (Kd.C_below HX.out HB.out) HCX.out F2.out).mono ?_); rintro e w_ ⟨rfl, hb_⟩; clear k0 k1 k2 j0 j1 j2; have HB := Aside0.mk (below_step HB.out hb_); have X1 := Aside0.mk (blk_below X1.out hb_); obtain ⟨⟨k0, k1, k2⟩, j0, j1, j2⟩ := cells3 X1.out; clear hb_))
  go_ret
  exact ⟨rfl, HB.out⟩
set_option maxRecDepth 100000 in
set_option maxHeartbeats 16000000 in
theorem edge_true (x : S24) (A : Option Addr) (c : Nat) (kind n many : Int) (w : World) (hx : Kd.C k24 w A x.f2.length x.f2) (hcx : x.f2.length ≤ c) (q1 : Nat) (r1 ss dd : Int) (M : Nat) (hM : M ≤ 3) (hmm : many = (M : Int)) (b1 b2 b3 b4 b5 b6 b7 b8 : Bool) (g1 : decide (0 ≤ kind) = b1) (g2 : decide (kind ≤ 1) = b2) (g3 : decide (0 ≤ n) = b3) (g4 : ((M : Int) == 0) = b4) (g4' : decide (M = 0) = b4) (g4'' : (M == 0) = b4) (g5 : decide (2 ≤ kind) = b5) (g6 : decide (kind ≤ 3) = b6) (g7 : (n == 0) = b7) (g7' : decide (n = 0) = b7) (g8 : ((M : Int) == 2) = b8) (g8' : decide (M = 2) = b8) (g8'' : (M == 2) = b8) (hF1 : pelicanref05_Nodes.f q1 x.f0 x.f1 x.f2 20 10 = some r1) (hF2 : term_May.f x.f0 x.f1 x.f2 = some true) (hFMx : term_May.f kind n (List.replicate M x) = some true) (hFIs : ((b1 && b2 && b3 && b4) || (b5 && b6 && b7 && b8)) = true) (hFSx : term_Size.f kind n (List.replicate M x) = some ss) (hFDx : term_Depth.f kind n (List.replicate M x) = some dd) (e1 : r1 ≤ 20) (e2 : decide (ss ≤ 60) = true) (e3 : decide (dd ≤ 12) = true) :
    Calls Try.prog 8 #[.agg #[.int .i64 x.f0, .int .i64 x.f1, .slice A x.f2.length c], .int .i64 kind, .int .i64 n, .int .i64 many] w fun e w' => e = .returned (.bool true) ∧ Below w.heap.size w w' := by
  have HX := Aside0.mk hx
  have HCX := Aside0.mk hcx
  clear hx hcx
  have F1 := Aside0.mk hF1
  have F2 := Aside0.mk hF2
  have FMx := Aside0.mk hFMx
  have FIs := Aside0.mk hFIs
  have FSx := Aside0.mk hFSx
  have FDx := Aside0.mk hFDx
  clear hF1 hF2 hFMx hFIs hFSx hFDx
  subst hmm
  go_enter Try.func8, Try.ntmps8
  go_upto_region 4 with (first
    | (go_at_call 9; (with_reducible refine (pelicanlaw05_awake.calls true _ rfl).mono ?_); rintro e w_ ⟨rfl, hb_⟩; have X1 := Aside0.mk (blk_below (blk_new w (.cells #[.int .i64 x.f0, .int .i64 x.f1, .slice A x.f2.length c] 24 (0, 0))) hb_); have HB := Aside0.mk (below_step (below_alloc (Below.refl w.heap.size w) (.cells #[.int .i64 x.f0, .int .i64 x.f1, .slice A x.f2.length c] 24 (0, 0))) hb_); clear hb_; obtain ⟨⟨k0, k1, k2⟩, j0, j1, j2⟩ := cells3 X1.out)
    | (go_at_call 25; (with_reducible refine (pelicanref05_Nodes.calls q1 x.f0 x.f1 A c x.f2 20 10 r1 _ (Kd.C_below HX.out HB.out) HCX.out F1.out).mono ?_); rintro e w_ ⟨rfl, hb_⟩; clear k0 k1 k2 j0 j1 j2; have HB := Aside0.mk (below_step HB.out hb_); have X1 := Aside0.mk (blk_below X1.out hb_); obtain ⟨⟨k0, k1, k2⟩, j0, j1, j2⟩ := cells3 X1.out; clear hb_)
    | (go_at_call 23; (with_reducible refine (term_May.calls x.f0 x.f1 A c x.f2 true _ (Kd.C_below HX.out HB.out) HCX.out F2.out).mono ?_); rintro e w_ ⟨rfl, hb_⟩; clear k0 k1 k2 j0 j1 j2; have HB := Aside0.mk (below_step HB.out hb_); have X1 := Aside0.mk (blk_below X1.out hb_); obtain ⟨⟨k0, k1, k2⟩, j0, j1, j2⟩ := cells3 X1.out; clear hb_))
  obtain ⟨w1, hw1⟩ : ∃ w1, w1 = w_ := ⟨_, rfl⟩
  subst hw1
  have X0 := X1
  have BK := Aside0.mk (blk_new w1 (.cells #[.int .i64 kind, .int .i64 n, .slice none 0 0] 24 (0, 0)))
  have X1 := Aside0.mk (blk_alloc X1.out (.cells #[.int .i64 kind, .int .i64 n, .slice none 0 0] 24 (0, 0)))
  have HSZ := Aside0.mk HB.out.size
  have HNE := Aside0.mk (blk_lt X0.out)
  have HB := Aside0.mk (below_alloc HB.out (.cells #[.int .i64 kind, .int .i64 n, .slice none 0 0] 24 (0, 0)))
  clear k0 k1 k2 j0 j1 j2
  go_wp2
  go_loopw [11] (fun v11 wr => ∃ i : Nat, i ≤ M ∧ v11 = .int .i64 i ∧ ∃ v : Value, Aside0 (wr.heap[w1.heap.size]? = some (.cells #[.int .i64 kind, .int .i64 n, v] 24 (0, 0))) ∧ Aside0 (Kd.N k24 24 wr w.heap.size (fun k => k ≠ w1.heap.size ∧ k ≠ w.heap.size) v (List.replicate i x)) ∧ Aside0 (wr.heap[w.heap.size]? = some (.cells #[.int .i64 x.f0, .int .i64 x.f1, .slice A x.f2.length c] 24 (0, 0))) ∧ Aside0 (Below w.heap.size w wr)) (fun v11 _ => M - (intOf v11).toNat)
  case atStart => exact ⟨0, by omega, rfl, _, BK, ⟨Kd.N_nil _ _ _ _ _⟩, X1, HB⟩
  case round =>
    clear BK X1 HB X0
    obtain ⟨i, hi, rfl, v, BK, HN, X1, HB⟩ := hrel
    obtain ⟨⟨k0, k1, k2⟩, j0, j1, j2⟩ := cells3 X1.out
    obtain ⟨⟨m0, m1, m2⟩, i0, i1, i2⟩ := cells3 BK.out
    by_cases hlt : i < M
    · have hne : w1.heap.size ≠ w.heap.size := by have := HNE.out; omega
      have hne2 : w.heap.size ≠ w1.heap.size := by omega
      go_wp2_with (first | ((with_reducible refine gate_builtin (b := .append) (xs := #[.tmp 45, .tmp 47]) rfl ?_); at_builtin; refine Kd.N_append k24 (w0 := w) w.heap.size rfl (.tmp 45) (.tmp 47) 22 24 (.agg #[.int .i64 0, .int .i64 0, .slice none 0 0]) 40 rfl Try.underlying22 info24 rfl (by decide) (by omega) v (List.replicate i x) x [.int .i64 x.f0, .int .i64 x.f1, .slice A x.f2.length c] (fun k => k ≠ w1.heap.size ∧ k ≠ w.heap.size) (fun k => k < w.heap.size) rfl rfl (k24_mkF _ _ x HCX.out (Kd.F_below (Kd.C_F k24_heap HX.out) HB.out)) (fun k hk => ⟨by have := HSZ.out; omega, fun e => by have := Kd.N_base HN.out k e.symm; omega⟩) (fun k hk => by have := HNE.out; have := blk_lt BK.out; omega) HN.out HB.out HB.out.size (by simp; omega) ?_; intro v' w2 hN hb hg hat; obtain ⟨A', c', rfl⟩ := Kd.N_slice hN; have BK2 := Aside0.mk ((hg.block _ (blk_lt BK.out) (fun e => (HN.out.1 _ e.symm).1 rfl)).trans BK.out); have XX := Aside0.mk ((hg.block _ (blk_lt X1.out) (fun e => (HN.out.1 _ e.symm).2 rfl)).trans X1.out); have HN2 := Aside0.mk hN; have HB2 := Aside0.mk hb; clear hN hb hg hat; obtain ⟨⟨p0, p1, p2⟩, q0, q1, q2⟩ := cells3 BK2.out))
      go_roundw
      case rel =>
        refine ⟨i + 1, by omega, by go_num, _, ⟨blk_put BK2.out 2 _ rfl⟩, ⟨?_⟩, ⟨blk_far XX.out hne2 _⟩, ⟨below_set HB2.out HSZ.out⟩⟩
        have z := HN2.out
        rw [show (List.replicate i x ++ [x]).length = i + 1 by simp] at z
        rw [← rep_snoc]
        exact Kd.N_far (p := ⟨w1.heap.size, 2, none⟩) z (fun k hk => hk.1) _
      case measure => simp [intOf]; omega
    · obtain rfl : M = i := by omega
      clear hlt hi
      obtain ⟨Av, cv, ev, hlv, hCv⟩ := Kd.N_reads HN.out
      rw [List.length_replicate] at ev hlv hCv
      subst ev
      have HCV := Aside0.mk hCv
      have HLV := Aside0.mk hlv
      clear hlv hCv HN
      go_upto_region 10 with (fail)
      obtain ⟨P1, P2⟩ := two_allocs' wr (.cells #[.int .i64 x.f0, .int .i64 x.f1, .slice A x.f2.length c, .int .i64 kind, .int .i64 n, .slice Av M cv] 24 (0, 0)) (.cells #[.int .i64 2, .int .i64 0, .slice (some ⟨wr.heap.size, 0, none⟩) 2 2] 24 (0, 0))
      have HCV := Aside0.mk (Kd.C_alloc (Kd.C_alloc HCV.out (.cells #[.int .i64 x.f0, .int .i64 x.f1, .slice A x.f2.length c, .int .i64 kind, .int .i64 n, .slice Av M cv] 24 (0, 0))) (.cells #[.int .i64 2, .int .i64 0, .slice (some ⟨wr.heap.size, 0, none⟩) 2 2] 24 (0, 0)))
      have BK := Aside0.mk (blk_alloc (blk_alloc BK.out (.cells #[.int .i64 x.f0, .int .i64 x.f1, .slice A x.f2.length c, .int .i64 kind, .int .i64 n, .slice Av M cv] 24 (0, 0))) (.cells #[.int .i64 2, .int .i64 0, .slice (some ⟨wr.heap.size, 0, none⟩) 2 2] 24 (0, 0)))
      have HB := Aside0.mk (below_alloc (below_alloc HB.out (.cells #[.int .i64 x.f0, .int .i64 x.f1, .slice A x.f2.length c, .int .i64 kind, .int .i64 n, .slice Av M cv] 24 (0, 0))) (.cells #[.int .i64 2, .int .i64 0, .slice (some ⟨wr.heap.size, 0, none⟩) 2 2] 24 (0, 0)))
      have P2 := Aside0.mk P2
      have HK : k24.K ((wr.alloc (.cells #[.int .i64 x.f0, .int .i64 x.f1, .slice A x.f2.length c, .int .i64 kind, .int .i64 n, .slice Av M cv] 24 (0, 0))).alloc (.cells #[.int .i64 2, .int .i64 0, .slice (some ⟨wr.heap.size, 0, none⟩) 2 2] 24 (0, 0))) ⟨kind, n, List.replicate M x⟩ [.int .i64 kind, .int .i64 n, .slice Av M cv] := by
        have z := k24_mk ((wr.alloc (.cells #[.int .i64 x.f0, .int .i64 x.f1, .slice A x.f2.length c, .int .i64 kind, .int .i64 n, .slice Av M cv] 24 (0, 0))).alloc (.cells #[.int .i64 2, .int .i64 0, .slice (some ⟨wr.heap.size, 0, none⟩) 2 2] 24 (0, 0))) ⟨kind, n, List.replicate M x⟩ (A2 := Av) (c2 := cv) (by rw [List.length_replicate]; exact HLV.out) (by rw [List.length_replicate]; exact HCV.out)
        rw [List.length_replicate] at z
        exact z
      have HY := Aside0.mk (C_two P1 (k24_mk _ x HCX.out (Kd.C_below HX.out HB.out)) HK)
      clear P1 HK m0 m1 m2 i0 i1 i2 k0 k1 k2 j0 j1 j2 X1
      obtain ⟨W4, hW4⟩ : ∃ W4, W4 = (wr.alloc (.cells #[.int .i64 x.f0, .int .i64 x.f1, .slice A x.f2.length c, .int .i64 kind, .int .i64 n, .slice Av M cv] 24 (0, 0))).alloc (.cells #[.int .i64 2, .int .i64 0, .slice (some ⟨wr.heap.size, 0, none⟩) 2 2] 24 (0, 0)) := ⟨_, rfl⟩
      rw [← hW4]
      rw [← hW4] at HCV BK HB P2 HY
      clear hW4
      go_cut [13] (fun v13 wc => v13 = .bool true ∧ Aside0 (wc.heap[w1.heap.size]? = some (.cells #[.int .i64 kind, .int .i64 n, .slice Av M cv] 24 (0, 0))) ∧ Aside0 (wc.heap[wr.heap.size + 1]? = some (.cells #[.int .i64 2, .int .i64 0, .slice (some ⟨wr.heap.size, 0, none⟩) 2 2] 24 (0, 0))) ∧ Aside0 (Kd.C k24 wc Av M (List.replicate M x)) ∧ Aside0 (Kd.C k24 wc (some ⟨wr.heap.size, 0, none⟩) 2 [x, ⟨kind, n, List.replicate M x⟩]) ∧ Aside0 (Below w.heap.size w wc))
      case first =>
        go_wp2
        all_goals go_meet
        all_goals (case rel => exact ⟨by first | rfl | (have z := FIs.out; simp_all), BK, P2, HCV, HY, HB⟩)
      case rest =>
        clear HCV BK HB P2 HY
        obtain ⟨rfl, BK, P2, HCV, HY, HB⟩ := hcut
        obtain ⟨⟨m0, m1, m2⟩, i0, i1, i2⟩ := cells3 BK.out
        go_upto_region 13 with (fail)
        have HB := Aside0.mk (below_drew HB.out)
        have BK := Aside0.mk (blk_drew BK.out)
        have P2 := Aside0.mk (blk_drew P2.out)
        have HCV := Aside0.mk (Kd.C_drew HCV.out)
        have HY := Aside0.mk (Kd.C_drew HY.out)
        refine start_ (n := 12) (S := fun w' => w'.cell? ⟨w1.heap.size, 0, none⟩ = some (.int .i64 kind) ∧ w'.cell? ⟨w1.heap.size, 1, none⟩ = some (.int .i64 n) ∧ w'.cell? ⟨w1.heap.size, 2, none⟩ = some (.slice Av M cv)) (ds := []) #[false, false, false, false, false, false, false, false, false, false, false, false] (by kernel_rfl) rfl rfl ⟨m0, m1, m2⟩ (fun hHeld => ?_)
        refine take_ (i := 0) (N := some 94) (v := ?_) (a' := ?_) #[true, false, false, false, false, false, false, false, false, false, false, false] rfl rfl (by kernel_rfl) (fun _ _ _ h => h) (Or.inl ⟨by rfl, ?_⟩) hHeld ?_ ?_
        rotate_left
        · rintro w' ⟨s0, s1, s2⟩
          go_simp
          with_reducible rfl
        rotate_left
        · simp only [Act.put, List.setIfInBounds_toArray, List.set_cons_zero, List.set_cons_succ, i64_w, i32_w]
          rfl
        refine take_ (i := 2) (N := some 96) (v := ?_) (a' := ?_) #[true, false, true, false, false, false, false, false, false, false, false, false] rfl rfl (by kernel_rfl) (fun _ _ _ h => h) (Or.inl ⟨by rfl, ?_⟩) hHeld ?_ ?_
        rotate_left
        · rintro w' ⟨s0, s1, s2⟩
          go_simp
          with_reducible rfl
        rotate_left
        · simp only [Act.put, List.setIfInBounds_toArray, List.set_cons_zero, List.set_cons_succ, i64_w, i32_w]
          rfl
        refine one_ (i := 1) (N := some 95) #[true, true, true, false, false, false, false, false, false, false, false, false] rfl rfl (by kernel_rfl) (by decide) (fun K hK => ?_)
        refine goes_ Try.func23 (by kernel_rfl) rfl #[.agg #[.int .i64 kind, .int .i64 n, .slice Av M cv]] (by rfl) rfl rfl (by simp only [List.map_toArray, List.map_cons, List.map_nil]; rfl) ?_
        with_reducible refine (may_n kind n (List.replicate M x) M cv Av _ true FMx.out List.length_replicate HLV.out HCV.out).mono ?_
        rintro e w_ ⟨rfl, hb_⟩
        refine ⟨_, rfl, ?_⟩
        have HB := Aside0.mk (below_step HB.out hb_)
        have BK := Aside0.mk (blk_below BK.out hb_)
        have P2 := Aside0.mk (blk_below P2.out hb_)
        have HCV := Aside0.mk (Kd.C_below HCV.out hb_)
        have HY := Aside0.mk (Kd.C_below HY.out hb_)
        clear hb_
        clear m0 m1 m2 i0 i1 i2
        obtain ⟨⟨m0, m1, m2⟩, i0, i1, i2⟩ := cells3 BK.out
        refine hK.out _ _ ⟨m0, m1, m2⟩ (fun hHeld => ?_)
        clear hK K
        refine norm_ (a' := ?_) ?_ ?_
        rotate_left
        · show Act.put _ (some 95) _ = _
          simp only [Act.put, List.setIfInBounds_toArray, List.set_cons_zero, List.set_cons_succ, i64_w, i32_w]
          rfl
        refine one_ (i := 3) (N := some 97) #[true, true, true, true, false, false, false, false, false, false, false, false] rfl rfl (by kernel_rfl) (by decide) (fun K hK => ?_)
        refine goes_ Try.func19 (by kernel_rfl) rfl #[.agg #[.int .i64 kind, .int .i64 n, .slice Av M cv]] (by rfl) rfl rfl (by simp only [List.map_toArray, List.map_cons, List.map_nil]; rfl) ?_
        with_reducible refine (size_n kind n (List.replicate M x) M cv Av _ ss FSx.out List.length_replicate HLV.out HCV.out).mono ?_
        rintro e w_ ⟨rfl, hb_⟩
        refine ⟨_, rfl, ?_⟩
        have HB := Aside0.mk (below_step HB.out hb_)
        have BK := Aside0.mk (blk_below BK.out hb_)
        have P2 := Aside0.mk (blk_below P2.out hb_)
        have HCV := Aside0.mk (Kd.C_below HCV.out hb_)
        have HY := Aside0.mk (Kd.C_below HY.out hb_)
        clear hb_
        clear m0 m1 m2 i0 i1 i2
        obtain ⟨⟨m0, m1, m2⟩, i0, i1, i2⟩ := cells3 BK.out
        refine hK.out _ _ ⟨m0, m1, m2⟩ (fun hHeld => ?_)
        clear hK K
        refine norm_ (a' := ?_) ?_ ?_
        rotate_left
        · show Act.put _ (some 97) _ = _
          simp only [Act.put, List.setIfInBounds_toArray, List.set_cons_zero, List.set_cons_succ, i64_w, i32_w]
          rfl
        refine pure_ (i := 4) (N := some 98) (v := ?_) (a' := ?_) #[true, true, true, true, true, false, false, false, false, false, false, false] rfl rfl (by kernel_rfl) (fun _ _ _ h => h) (Or.inl ⟨by rfl, ?_⟩) ?_ ?_
        rotate_left
        · intro w'
          go_simp
          with_reducible rfl
        rotate_left
        · simp only [Act.put, List.setIfInBounds_toArray, List.set_cons_zero, List.set_cons_succ, i64_w, i32_w]
          rfl
        refine pure_ (i := 5) (N := some 99) (v := ?_) (a' := ?_) #[true, true, true, true, true, true, false, false, false, false, false, false] rfl rfl (by kernel_rfl) (fun _ _ _ h => h) (Or.inl ⟨by rfl, ?_⟩) ?_ ?_
        rotate_left
        · intro w'
          go_simp
          with_reducible rfl
        rotate_left
        · simp only [Act.put, List.setIfInBounds_toArray, List.set_cons_zero, List.set_cons_succ, i64_w, i32_w]
          rfl
        refine take_ (i := 6) (N := some 100) (v := ?_) (a' := ?_) #[true, true, true, true, true, true, true, false, false, false, false, false] rfl rfl (by kernel_rfl) (fun _ _ _ h => h) (Or.inl ⟨by rfl, ?_⟩) hHeld ?_ ?_
        rotate_left
        · rintro w' ⟨s0, s1, s2⟩
          go_simp
          with_reducible rfl
        rotate_left
        · simp only [Act.put, List.setIfInBounds_toArray, List.set_cons_zero, List.set_cons_succ, i64_w, i32_w]
          rfl
        refine one_ (i := 7) (N := some 101) #[true, true, true, true, true, true, true, true, false, false, false, false] rfl rfl (by kernel_rfl) (by decide) (fun K hK => ?_)
        refine goes_ Try.func21 (by kernel_rfl) rfl #[.agg #[.int .i64 kind, .int .i64 n, .slice Av M cv]] (by rfl) rfl rfl (by simp only [List.map_toArray, List.map_cons, List.map_nil]; rfl) ?_
        with_reducible refine (depth_n kind n (List.replicate M x) M cv Av _ dd FDx.out List.length_replicate HLV.out HCV.out).mono ?_
        rintro e w_ ⟨rfl, hb_⟩
        refine ⟨_, rfl, ?_⟩
        have HB := Aside0.mk (below_step HB.out hb_)
        have BK := Aside0.mk (blk_below BK.out hb_)
        have P2 := Aside0.mk (blk_below P2.out hb_)
        have HCV := Aside0.mk (Kd.C_below HCV.out hb_)
        have HY := Aside0.mk (Kd.C_below HY.out hb_)
        clear hb_
        clear m0 m1 m2 i0 i1 i2
        obtain ⟨⟨m0, m1, m2⟩, i0, i1, i2⟩ := cells3 BK.out
        refine hK.out _ _ ⟨m0, m1, m2⟩ (fun hHeld => ?_)
        clear hK K
        refine norm_ (a' := ?_) ?_ ?_
        rotate_left
        · show Act.put _ (some 101) _ = _
          simp only [Act.put, List.setIfInBounds_toArray, List.set_cons_zero, List.set_cons_succ, i64_w, i32_w]
          rfl
        refine pure_ (i := 8) (N := some 102) (v := ?_) (a' := ?_) #[true, true, true, true, true, true, true, true, true, false, false, false] rfl rfl (by kernel_rfl) (fun _ _ _ h => h) (Or.inl ⟨by rfl, ?_⟩) ?_ ?_
        rotate_left
        · intro w'
          go_simp
          with_reducible rfl
        rotate_left
        · simp only [Act.put, List.setIfInBounds_toArray, List.set_cons_zero, List.set_cons_succ, i64_w, i32_w]
          rfl
        refine pure_ (i := 9) (N := some 103) (v := ?_) (a' := ?_) #[true, true, true, true, true, true, true, true, true, true, false, false] rfl rfl (by kernel_rfl) (fun _ _ _ h => h) (Or.inl ⟨by rfl, ?_⟩) ?_ ?_
        rotate_left
        · intro w'
          go_simp
          with_reducible rfl
        rotate_left
        · simp only [Act.put, List.setIfInBounds_toArray, List.set_cons_zero, List.set_cons_succ, i64_w, i32_w]
          rfl
        refine pure_ (i := 10) (N := some 104) (v := ?_) (a' := ?_) #[true, true, true, true, true, true, true, true, true, true, true, false] rfl rfl (by kernel_rfl) (fun _ _ _ h => h) (Or.inl ⟨by rfl, ?_⟩) ?_ ?_
        rotate_left
        · intro w'
          go_simp
          with_reducible rfl
        rotate_left
        · simp only [Act.put, List.setIfInBounds_toArray, List.set_cons_zero, List.set_cons_succ, i64_w, i32_w]
          rfl
        refine pure_ (i := 11) (N := some 8) (v := ?_) (a' := ?_) #[true, true, true, true, true, true, true, true, true, true, true, true] rfl rfl (by kernel_rfl) (fun _ _ _ h => h) (Or.inl ⟨by rfl, ?_⟩) ?_ ?_
        rotate_left
        · intro w'
          go_simp
          with_reducible rfl
        rotate_left
        · simp only [Act.put, List.setIfInBounds_toArray, List.set_cons_zero, List.set_cons_succ, i64_w, i32_w]
          rfl
        refine done_ (by kernel_rfl) ?_

        all_goals go_wp2
        all_goals (try go_ret)
        all_goals exact ⟨rfl, HB.out⟩
set_option maxRecDepth 100000 in
set_option maxHeartbeats 16000000 in
theorem edge_false (x : S24) (A : Option Addr) (c : Nat) (kind n many : Int) (w : World) (hx : Kd.C k24 w A x.f2.length x.f2) (hcx : x.f2.length ≤ c) (q1 : Nat) (r1 ss dd : Int) (M : Nat) (hM : M ≤ 3) (hmm : many = (M : Int)) (b1 b2 b3 b4 b5 b6 b7 b8 : Bool) (g1 : decide (0 ≤ kind) = b1) (g2 : decide (kind ≤ 1) = b2) (g3 : decide (0 ≤ n) = b3) (g4 : ((M : Int) == 0) = b4) (g4' : decide (M = 0) = b4) (g4'' : (M == 0) = b4) (g5 : decide (2 ≤ kind) = b5) (g6 : decide (kind ≤ 3) = b6) (g7 : (n == 0) = b7) (g7' : decide (n = 0) = b7) (g8 : ((M : Int) == 2) = b8) (g8' : decide (M = 2) = b8) (g8'' : (M == 2) = b8) (hF1 : pelicanref05_Nodes.f q1 x.f0 x.f1 x.f2 20 10 = some r1) (hF2 : term_May.f x.f0 x.f1 x.f2 = some true) (hFMx : term_May.f kind n (List.replicate M x) = some false) (hFIs : ((b1 && b2 && b3 && b4) || (b5 && b6 && b7 && b8)) = false) (hFMy : term_May.f 2 0 [x, ⟨kind, n, List.replicate M x⟩] = some false) (e1 : r1 ≤ 20) (e2 : decide (ss ≤ 60) = true) (e3 : decide (dd ≤ 12) = true) :
    Calls Try.prog 8 #[.agg #[.int .i64 x.f0, .int .i64 x.f1, .slice A x.f2.length c], .int .i64 kind, .int .i64 n, .int .i64 many] w fun e w' => e = .returned (.bool true) ∧ Below w.heap.size w w' := by
  have HX := Aside0.mk hx
  have HCX := Aside0.mk hcx
  clear hx hcx
  have F1 := Aside0.mk hF1
  have F2 := Aside0.mk hF2
  have FMx := Aside0.mk hFMx
  have FIs := Aside0.mk hFIs
  have FMy := Aside0.mk hFMy
  clear hF1 hF2 hFMx hFIs hFMy
  subst hmm
  go_enter Try.func8, Try.ntmps8
  go_upto_region 4 with (first
    | (go_at_call 9; (with_reducible refine (pelicanlaw05_awake.calls true _ rfl).mono ?_); rintro e w_ ⟨rfl, hb_⟩; have X1 := Aside0.mk (blk_below (blk_new w (.cells #[.int .i64 x.f0, .int .i64 x.f1, .slice A x.f2.length c] 24 (0, 0))) hb_); have HB := Aside0.mk (below_step (below_alloc (Below.refl w.heap.size w) (.cells #[.int .i64 x.f0, .int .i64 x.f1, .slice A x.f2.length c] 24 (0, 0))) hb_); clear hb_; obtain ⟨⟨k0, k1, k2⟩, j0, j1, j2⟩ := cells3 X1.out)
    | (go_at_call 25; (with_reducible refine (pelicanref05_Nodes.calls q1 x.f0 x.f1 A c x.f2 20 10 r1 _ (Kd.C_below HX.out HB.out) HCX.out F1.out).mono ?_); rintro e w_ ⟨rfl, hb_⟩; clear k0 k1 k2 j0 j1 j2; have HB := Aside0.mk (below_step HB.out hb_); have X1 := Aside0.mk (blk_below X1.out hb_); obtain ⟨⟨k0, k1, k2⟩, j0, j1, j2⟩ := cells3 X1.out; clear hb_)
    | (go_at_call 23; (with_reducible refine (term_May.calls x.f0 x.f1 A c x.f2 true _ (Kd.C_below HX.out HB.out) HCX.out F2.out).mono ?_); rintro e w_ ⟨rfl, hb_⟩; clear k0 k1 k2 j0 j1 j2; have HB := Aside0.mk (below_step HB.out hb_); have X1 := Aside0.mk (blk_below X1.out hb_); obtain ⟨⟨k0, k1, k2⟩, j0, j1, j2⟩ := cells3 X1.out; clear hb_))
  obtain ⟨w1, hw1⟩ : ∃ w1, w1 = w_ := ⟨_, rfl⟩
  subst hw1
  have X0 := X1
  have BK := Aside0.mk (blk_new w1 (.cells #[.int .i64 kind, .int .i64 n, .slice none 0 0] 24 (0, 0)))
  have X1 := Aside0.mk (blk_alloc X1.out (.cells #[.int .i64 kind, .int .i64 n, .slice none 0 0] 24 (0, 0)))
  have HSZ := Aside0.mk HB.out.size
  have HNE := Aside0.mk (blk_lt X0.out)
  have HB := Aside0.mk (below_alloc HB.out (.cells #[.int .i64 kind, .int .i64 n, .slice none 0 0] 24 (0, 0)))
  clear k0 k1 k2 j0 j1 j2
  go_wp2
  go_loopw [11] (fun v11 wr => ∃ i : Nat, i ≤ M ∧ v11 = .int .i64 i ∧ ∃ v : Value, Aside0 (wr.heap[w1.heap.size]? = some (.cells #[.int .i64 kind, .int .i64 n, v] 24 (0, 0))) ∧ Aside0 (Kd.N k24 24 wr w.heap.size (fun k => k ≠ w1.heap.size ∧ k ≠ w.heap.size) v (List.replicate i x)) ∧ Aside0 (wr.heap[w.heap.size]? = some (.cells #[.int .i64 x.f0, .int .i64 x.f1, .slice A x.f2.length c] 24 (0, 0))) ∧ Aside0 (Below w.heap.size w wr)) (fun v11 _ => M - (intOf v11).toNat)
  case atStart => exact ⟨0, by omega, rfl, _, BK, ⟨Kd.N_nil _ _ _ _ _⟩, X1, HB⟩
  case round =>
    clear BK X1 HB X0
    obtain ⟨i, hi, rfl, v, BK, HN, X1, HB⟩ := hrel
    obtain ⟨⟨k0, k1, k2⟩, j0, j1, j2⟩ := cells3 X1.out
    obtain ⟨⟨m0, m1, m2⟩, i0, i1, i2⟩ := cells3 BK.out
    by_cases hlt : i < M
    · have hne : w1.heap.size ≠ w.heap.size := by have := HNE.out; omega
      have hne2 : w.heap.size ≠ w1.heap.size := by omega
      go_wp2_with (first | ((with_reducible refine gate_builtin (b := .append) (xs := #[.tmp 45, .tmp 47]) rfl ?_); at_builtin; refine Kd.N_append k24 (w0 := w) w.heap.size rfl (.tmp 45) (.tmp 47) 22 24 (.agg #[.int .i64 0, .int .i64 0, .slice none 0 0]) 40 rfl Try.underlying22 info24 rfl (by decide) (by omega) v (List.replicate i x) x [.int .i64 x.f0, .int .i64 x.f1, .slice A x.f2.length c] (fun k => k ≠ w1.heap.size ∧ k ≠ w.heap.size) (fun k => k < w.heap.size) rfl rfl (k24_mkF _ _ x HCX.out (Kd.F_below (Kd.C_F k24_heap HX.out) HB.out)) (fun k hk => ⟨by have := HSZ.out; omega, fun e => by have := Kd.N_base HN.out k e.symm; omega⟩) (fun k hk => by have := HNE.out; have := blk_lt BK.out; omega) HN.out HB.out HB.out.size (by simp; omega) ?_; intro v' w2 hN hb hg hat; obtain ⟨A', c', rfl⟩ := Kd.N_slice hN; have BK2 := Aside0.mk ((hg.block _ (blk_lt BK.out) (fun e => (HN.out.1 _ e.symm).1 rfl)).trans BK.out); have XX := Aside0.mk ((hg.block _ (blk_lt X1.out) (fun e => (HN.out.1 _ e.symm).2 rfl)).trans X1.out); have HN2 := Aside0.mk hN; have HB2 := Aside0.mk hb; clear hN hb hg hat; obtain ⟨⟨p0, p1, p2⟩, q0, q1, q2⟩ := cells3 BK2.out))
      go_roundw
      case rel =>
        refine ⟨i + 1, by omega, by go_num, _, ⟨blk_put BK2.out 2 _ rfl⟩, ⟨?_⟩, ⟨blk_far XX.out hne2 _⟩, ⟨below_set HB2.out HSZ.out⟩⟩
        have z := HN2.out
        rw [show (List.replicate i x ++ [x]).length = i + 1 by simp] at z
        rw [← rep_snoc]
        exact Kd.N_far (p := ⟨w1.heap.size, 2, none⟩) z (fun k hk => hk.1) _
      case measure => simp [intOf]; omega
    · obtain rfl : M = i := by omega
      clear hlt hi
      obtain ⟨Av, cv, ev, hlv, hCv⟩ := Kd.N_reads HN.out
      rw [List.length_replicate] at ev hlv hCv
      subst ev
      have HCV := Aside0.mk hCv
      have HLV := Aside0.mk hlv
      clear hlv hCv HN
      go_upto_region 10 with (fail)
      obtain ⟨P1, P2⟩ := two_allocs' wr (.cells #[.int .i64 x.f0, .int .i64 x.f1, .slice A x.f2.length c, .int .i64 kind, .int .i64 n, .slice Av M cv] 24 (0, 0)) (.cells #[.int .i64 2, .int .i64 0, .slice (some ⟨wr.heap.size, 0, none⟩) 2 2] 24 (0, 0))
      have HCV := Aside0.mk (Kd.C_alloc (Kd.C_alloc HCV.out (.cells #[.int .i64 x.f0, .int .i64 x.f1, .slice A x.f2.length c, .int .i64 kind, .int .i64 n, .slice Av M cv] 24 (0, 0))) (.cells #[.int .i64 2, .int .i64 0, .slice (some ⟨wr.heap.size, 0, none⟩) 2 2] 24 (0, 0)))
      have BK := Aside0.mk (blk_alloc (blk_alloc BK.out (.cells #[.int .i64 x.f0, .int .i64 x.f1, .slice A x.f2.length c, .int .i64 kind, .int .i64 n, .slice Av M cv] 24 (0, 0))) (.cells #[.int .i64 2, .int .i64 0, .slice (some ⟨wr.heap.size, 0, none⟩) 2 2] 24 (0, 0)))
      have HB := Aside0.mk (below_alloc (below_alloc HB.out (.cells #[.int .i64 x.f0, .int .i64 x.f1, .slice A x.f2.length c, .int .i64 kind, .int .i64 n, .slice Av M cv] 24 (0, 0))) (.cells #[.int .i64 2, .int .i64 0, .slice (some ⟨wr.heap.size, 0, none⟩) 2 2] 24 (0, 0)))
      have P2 := Aside0.mk P2
      have HK : k24.K ((wr.alloc (.cells #[.int .i64 x.f0, .int .i64 x.f1, .slice A x.f2.length c, .int .i64 kind, .int .i64 n, .slice Av M cv] 24 (0, 0))).alloc (.cells #[.int .i64 2, .int .i64 0, .slice (some ⟨wr.heap.size, 0, none⟩) 2 2] 24 (0, 0))) ⟨kind, n, List.replicate M x⟩ [.int .i64 kind, .int .i64 n, .slice Av M cv] := by
        have z := k24_mk ((wr.alloc (.cells #[.int .i64 x.f0, .int .i64 x.f1, .slice A x.f2.length c, .int .i64 kind, .int .i64 n, .slice Av M cv] 24 (0, 0))).alloc (.cells #[.int .i64 2, .int .i64 0, .slice (some ⟨wr.heap.size, 0, none⟩) 2 2] 24 (0, 0))) ⟨kind, n, List.replicate M x⟩ (A2 := Av) (c2 := cv) (by rw [List.length_replicate]; exact HLV.out) (by rw [List.length_replicate]; exact HCV.out)
        rw [List.length_replicate] at z
        exact z
      have HY := Aside0.mk (C_two P1 (k24_mk _ x HCX.out (Kd.C_below HX.out HB.out)) HK)
      clear P1 HK m0 m1 m2 i0 i1 i2 k0 k1 k2 j0 j1 j2 X1
      obtain ⟨W4, hW4⟩ : ∃ W4, W4 = (wr.alloc (.cells #[.int .i64 x.f0, .int .i64 x.f1, .slice A x.f2.length c, .int .i64 kind, .int .i64 n, .slice Av M cv] 24 (0, 0))).alloc (.cells #[.int .i64 2, .int .i64 0, .slice (some ⟨wr.heap.size, 0, none⟩) 2 2] 24 (0, 0)) := ⟨_, rfl⟩
      rw [← hW4]
      rw [← hW4] at HCV BK HB P2 HY
      clear hW4
      go_cut [13] (fun v13 wc => v13 = .bool false ∧ Aside0 (wc.heap[w1.heap.size]? = some (.cells #[.int .i64 kind, .int .i64 n, .slice Av M cv] 24 (0, 0))) ∧ Aside0 (wc.heap[wr.heap.size + 1]? = some (.cells #[.int .i64 2, .int .i64 0, .slice (some ⟨wr.heap.size, 0, none⟩) 2 2] 24 (0, 0))) ∧ Aside0 (Kd.C k24 wc Av M (List.replicate M x)) ∧ Aside0 (Kd.C k24 wc (some ⟨wr.heap.size, 0, none⟩) 2 [x, ⟨kind, n, List.replicate M x⟩]) ∧ Aside0 (Below w.heap.size w wc))
      case first =>
        go_wp2
        all_goals go_meet
        all_goals (case rel => exact ⟨by first | rfl | (have z := FIs.out; simp_all), BK, P2, HCV, HY, HB⟩)
      case rest =>
        clear HCV BK HB P2 HY
        obtain ⟨rfl, BK, P2, HCV, HY, HB⟩ := hcut
        obtain ⟨⟨m0, m1, m2⟩, i0, i1, i2⟩ := cells3 BK.out
        obtain ⟨⟨l0, l1, l2⟩, o0, o1, o2⟩ := cells3 P2.out
        go_wp2_with (first
          | (go_at_call 23; (with_reducible refine (may_n kind n (List.replicate M x) M cv Av _ false FMx.out List.length_replicate HLV.out HCV.out).mono ?_); rintro e w_ ⟨rfl, hb_⟩; clear l0 l1 l2 o0 o1 o2; have HB := Aside0.mk (below_step HB.out hb_); have BK := Aside0.mk (blk_below BK.out hb_); have P2 := Aside0.mk (blk_below P2.out hb_); have HCV := Aside0.mk (Kd.C_below HCV.out hb_); have HY := Aside0.mk (Kd.C_below HY.out hb_); clear hb_; clear m0 m1 m2 i0 i1 i2; obtain ⟨⟨m0, m1, m2⟩, i0, i1, i2⟩ := cells3 BK.out; obtain ⟨⟨l0, l1, l2⟩, o0, o1, o2⟩ := cells3 P2.out)
          | (go_at_call 23; (with_reducible refine (may_n 2 0 [x, ⟨kind, n, List.replicate M x⟩] 2 2 _ _ false FMy.out rfl (Nat.le_refl _) HY.out).mono ?_); rintro e w_ ⟨rfl, hb_⟩; clear l0 l1 l2 o0 o1 o2; have HB := Aside0.mk (below_step HB.out hb_); have BK := Aside0.mk (blk_below BK.out hb_); have P2 := Aside0.mk (blk_below P2.out hb_); have HCV := Aside0.mk (Kd.C_below HCV.out hb_); have HY := Aside0.mk (Kd.C_below HY.out hb_); clear hb_; clear m0 m1 m2 i0 i1 i2; obtain ⟨⟨m0, m1, m2⟩, i0, i1, i2⟩ := cells3 BK.out; obtain ⟨⟨l0, l1, l2⟩, o0, o1, o2⟩ := cells3 P2.out))
        go_ret
        exact ⟨rfl, HB.out⟩
theorem rep_lsize (x : S24) : ∀ M, lsize (List.replicate M x) = M * tsize x
  | 0 => by simp [lsize]
  | M + 1 => by rw [List.replicate_succ, lsize, rep_lsize x M, Nat.add_mul]; omega
theorem rep_ldep (x : S24) : ∀ M, ldep (List.replicate M x) ≤ tdep x
  | 0 => by simp [ldep]
  | M + 1 => by have := rep_ldep x M; rw [List.replicate_succ, ldep]; omega
theorem rep_okL (x : S24) (h : okT x = true) : ∀ M, okL (List.replicate M x) = true
  | 0 => by simp [okL]
  | M + 1 => by rw [List.replicate_succ, okL, h, rep_okL x h M]; rfl
theorem pelicanlaw05_TermEdge_in (x : S24) (A : Option Addr) (c : Nat) (kind n many : Int) (w : World) (hx : Kd.C k24 w A x.f2.length x.f2) (hcx : x.f2.length ≤ c) :
    Calls Try.prog 8 #[.agg #[.int .i64 x.f0, .int .i64 x.f1, .slice A x.f2.length c], .int .i64 kind, .int .i64 n, .int .i64 many] w fun e w' => e = .returned (.bool true) ∧ Below w.heap.size w w' := by
  obtain ⟨q1, hq1⟩ := Ev.rounds (nodes_ev x 20 10 (by omega) (by omega) (by omega) (by omega))
  obtain ⟨b, hb⟩ : ∃ b, term_May.f x.f0 x.f1 x.f2 = some b := ⟨_, rfl⟩
  by_cases hs : (tsize x : Int) ≤ 20 ∧ (tdep x : Int) ≤ 10
  · have v1 : nodV x 20 10 ≤ 20 := by unfold nodV; rw [if_pos hs]; exact hs.1
    by_cases h0 : many < 0
    · exact edge_o2 x A c kind n many w hx hcx q1 _ b hq1 hb v1 h0
    · by_cases h3 : 3 < many
      · exact edge_o3 x A c kind n many w hx hcx q1 _ b hq1 hb v1 (by omega) h3
      · cases b with
        | false => exact edge_o4 x A c kind n many w hx hcx q1 _ false hq1 hb v1 (by omega) (by omega)
        | true =>
          obtain ⟨M, hM⟩ := Int.eq_ofNat_of_zero_le (show 0 ≤ many by omega)
          have hMs : ∀ t : Nat, t ≤ 20 → M * t ≤ 60 := fun t ht => Nat.le_trans (Nat.mul_le_mul (show M ≤ 3 by omega) ht) (by omega)
          have hsz := hMs (tsize x) (by omega)
          have hok : okT x = true := by
            rw [may_f x (by omega)] at hb
            have := Option.some.inj hb
            unfold mayT at this
            simp only [Bool.and_eq_true] at this
            exact this.1
          have tz : tsize ⟨kind, n, List.replicate M x⟩ = M * tsize x + 1 := by rw [tsize, rep_lsize]
          have dz : tdep ⟨kind, n, List.replicate M x⟩ ≤ tdep x + 1 := by rw [tdep]; have := rep_ldep x M; omega
          have oz : okT ⟨kind, n, List.replicate M x⟩ = isB kind n M := by rw [okT, rep_okL x hok, List.length_replicate, isB_node, Bool.and_true]
          have FM := may_f ⟨kind, n, List.replicate M x⟩ (by rw [tz]; omega)
          have g4 : ((M : Int) == 0) = decide (M = 0) := by rw [Bool.eq_iff_iff]; simp
          have g8 : ((M : Int) == 2) = decide (M = 2) := by rw [Bool.eq_iff_iff]; simp; omega
          cases hi : isB kind n M with
          | true =>
            have hM2 : M = 0 ∨ M = 2 := by
              unfold isB at hi
              simp at hi
              omega
            have hsz2 : M * tsize x + 1 ≤ 60 := by rcases hM2 with rfl | rfl <;> omega
            have hm : mayT ⟨kind, n, List.replicate M x⟩ = true := by
              unfold mayT
              rw [oz, hi, decide_eq_true (show tsize ⟨kind, n, List.replicate M x⟩ ≤ 60 by rw [tz]; exact hsz2), decide_eq_true (by omega)]
              rfl
            rw [hm] at FM
            exact edge_true x A c kind n many w hx hcx q1 _ _ _ M (by omega) hM _ _ _ (decide (M = 0)) _ _ (decide (n = 0)) (decide (M = 2)) rfl rfl rfl g4 rfl rfl rfl rfl rfl rfl g8 rfl rfl hq1 hb FM hi (size_f ⟨kind, n, List.replicate M x⟩ (by rw [tz]; omega)) (depth_f ⟨kind, n, List.replicate M x⟩ (by rw [tz]; omega)) v1 (decide_eq_true (by rw [tz]; omega)) (decide_eq_true (by omega))
          | false =>
            have hm : mayT ⟨kind, n, List.replicate M x⟩ = false := by unfold mayT; rw [oz, hi, Bool.false_and]
            have FY := may_f ⟨2, 0, [x, ⟨kind, n, List.replicate M x⟩]⟩ (by rw [tsize, lsize_two, tz]; omega)
            have hy : mayT ⟨2, 0, [x, ⟨kind, n, List.replicate M x⟩]⟩ = false := by unfold mayT; rw [okT, okL, okL, oz, hi]; simp
            rw [hm] at FM
            rw [hy] at FY
            exact edge_false x A c kind n many w hx hcx q1 _ 0 0 M (by omega) hM _ _ _ (decide (M = 0)) _ _ (decide (n = 0)) (decide (M = 2)) rfl rfl rfl g4 rfl rfl rfl rfl rfl rfl g8 rfl rfl hq1 hb FM hi FY v1 rfl rfl
  · exact edge_o1 x A c kind n many w hx hcx q1 _ b hq1 hb (by unfold nodV; rw [if_neg hs]; omega)
def pelicanlaw05_TermEdge.f (a0_0 : Int) (a0_1 : Int) (l0_2 : List (S24)) (a1 : Int) (a2 : Int) (a3 : Int) : Option (Bool) := some true
theorem pelicanlaw05_TermEdge.calls (a0_0 : Int) (a0_1 : Int) (A0_2 : Option Addr) (c0_2 : Nat) (l0_2 : List (S24)) (a1 : Int) (a2 : Int) (a3 : Int) (r : Bool) (w : World) (hr0_2 : Kd.C k24 w A0_2 l0_2.length l0_2) (hc0_2 : l0_2.length ≤ c0_2) (h : pelicanlaw05_TermEdge.f a0_0 a0_1 l0_2 a1 a2 a3 = some r) (hr_0 : r = true) :
    Calls Try.prog 8 #[.agg #[.int .i64 a0_0, .int .i64 a0_1, .slice A0_2 l0_2.length c0_2], .int .i64 a1, .int .i64 a2, .int .i64 a3] w fun e w' => e = .returned (.bool r) ∧ Below w.heap.size w w' := by
  subst hr_0
  exact pelicanlaw05_TermEdge_in ⟨a0_0, a0_1, l0_2⟩ A0_2 c0_2 a1 a2 a3 w hr0_2 hc0_2
end Go.Proofs.Ytmmmmedcgmcoaaa.P

