/- What LawSymAgree rests on, part 10: several texts put together. -/
import Derived.Test.YtdinphnljokigaaGreatS9
import Derived.Scope
import Derived.ScopeJumps
import Derived.WalkMore
import Derived.Test.YtdinphnljokigaaGreatS4
import Derived.Test.YtdinphnljokigaaGreatS6
import Derived.Test.YtdinphnljokigaaGreatS3
set_option linter.unusedVariables false
set_option linter.unnecessarySimpa false
set_option linter.unusedSimpArgs false
set_option maxRecDepth 100000
section
namespace Go.Proofs.YtdinphnljokigaaGreat.P
open Go.RowKit Go.Lib Go.Proofs.YtdinphnljokigaaGreatW.PrintWords Go.Proofs.YtdinphnljokigaaGreatW.PrintLast Go.Proofs.YtdinphnljokigaaGreatW.PrintMore
def beginS (l : List Ses) (x : Ses) (idle now : Int) : List Ses × Int :=
  if mayS l = false ∨ timesB idle now = false ∨ mayB x = false ∨ x.isOpen = true then (l, 1)
  else if findS l x.draw = -1 then
    if (if l.length = 4 then awakeS l idle now else l).length = 4 then (l, 12)
    else ((if l.length = 4 then awakeS l idle now else l) ++ [{ x with last := now }], 0)
  else (l, 6)
theorem sca_last (x : Ses) (n : Int) : (sca x).setIfInBounds 38 (.int .i64 n) = sca { x with last := n } := by
  apply Array.toList_inj.1
  rw [Array.toList_setIfInBounds, sca_list, sca_list]
  exact (scl_last x n).symm
def BegW (w : World) (x : Ses) (idle now : Int) : World := ((w.alloc (.cells (sca x) 33)).alloc (.cells #[.int .i64 idle] 3)).alloc (.cells #[.int .i64 now] 3)
theorem begW_size (w : World) (x : Ses) (idle now : Int) : (BegW w x idle now).heap.size = w.heap.size + 3 := by
  unfold BegW
  rw [show ∀ (w : World) (o : Obj), (w.alloc o).heap.size = w.heap.size + 1 from fun w o => Array.size_push _, show ∀ (w : World) (o : Obj), (w.alloc o).heap.size = w.heap.size + 1 from fun w o => Array.size_push _, show ∀ (w : World) (o : Obj), (w.alloc o).heap.size = w.heap.size + 1 from fun w o => Array.size_push _]
def BegX (w : World) (x : Ses) (idle now : Int) (w' : World) : Prop :=
  w'.heap[w.heap.size]? = some (.cells (sca x) 33 (0, 0)) ∧ w'.heap[w.heap.size + 1]? = some (.cells #[.int .i64 idle] 3 (0, 0)) ∧ w'.heap[w.heap.size + 2]? = some (.cells #[.int .i64 now] 3 (0, 0))
theorem begX_new (w : World) (x : Ses) (idle now : Int) : BegX w x idle now (BegW w x idle now) := by
  have e1 : (w.alloc (.cells (sca x) 33)).heap.size = w.heap.size + 1 := Array.size_push _
  have e2 : ((w.alloc (.cells (sca x) 33)).alloc (.cells #[.int .i64 idle] 3)).heap.size = w.heap.size + 2 := by
    rw [show ∀ (w : World) (o : Obj), (w.alloc o).heap.size = w.heap.size + 1 from fun w o => Array.size_push _, e1]
  refine ⟨blk_alloc (blk_alloc (blk_new w _) _) _, ?_, ?_⟩
  · have h := blk_alloc (blk_new (w.alloc (.cells (sca x) 33)) (.cells #[.int .i64 idle] 3)) (.cells #[.int .i64 now] 3)
    rw [e1] at h
    exact h
  · have h := blk_new ((w.alloc (.cells (sca x) 33)).alloc (.cells #[.int .i64 idle] 3)) (.cells #[.int .i64 now] 3)
    rw [e2] at h
    exact h
theorem begX_below {w : World} {x : Ses} {idle now : Int} {w1 w2 : World} (h : BegX w x idle now w1) (hb : Below w1.heap.size w1 w2) : BegX w x idle now w2 := ⟨blk_below h.1 hb, blk_below h.2.1 hb, blk_below h.2.2 hb⟩
theorem begX_base {w : World} {x : Ses} {idle now : Int} {w1 w2 : World} (h : BegX w x idle now w1) (hb : Below (w.heap.size + 3) w1 w2) : BegX w x idle now w2 := ⟨blk_base h.1 (by omega) hb, blk_base h.2.1 (by omega) hb, blk_base h.2.2 (by omega) hb⟩
theorem begW_below (w : World) (x : Ses) (idle now : Int) : Below w.heap.size w (BegW w x idle now) := below_alloc (below_alloc (below_alloc (Below.refl _ _) _) _) _
section
variable {ops : Array Oper} {rest : List Oper} {o : Oper} {a : Act} {Q : Exit → Act → World → Prop}
theorem store_last {W : World} {g : Nat} {y : Ses} (p x : Operand) (ho : o.op = .store 3 p x) (hN : o.dst = none) (hgd : o.guard = none) (n : Int) (haddr : a.eval p = .pointer (some ⟨g, 38, none⟩)) (hx : a.eval x = .int .i64 n)
    (hg : W.heap[g]? = some (.cells (sca y) 33 (0, 0)))
    (h : ∀ w1 : World, w1.heap[g]? = some (.cells (sca { y with last := n }) 33 (0, 0)) → (∀ k, k ≠ g → w1.heap[k]? = W.heap[k]?) → (∀ B w0, B ≤ g → Below B w0 W → Below B w0 w1) → w1.heap.size = W.heap.size → wpList Tryz.prog ops Q rest a w1) : wpList Tryz.prog ops Q (o :: rest) a W := by
  have hr := run_store_run (P := Tryz.prog) (g := g) (o := 38) 3 (.int .i64 n) [.int .i64 n] hg rfl (by kernel_rfl) (by rw [sca_size]; simp) (by simp; rfl)
  refine wpList_plain hgd (fun K hK => ?_)
  unfold Oper.wp execOp
  simp only [ho, haddr, hx, Sem.run_bind, hr, Result.andThen_ok]
  have h3 := hK _ _ (h (W.setCell ⟨g, 38, none⟩ (.int .i64 n)) (blk_put hg 38 _ (sca_last y n)) (fun k hk => Below.heap_setCell W ⟨g, 38, none⟩ _ k hk) (fun B w0 hB hb => hb.setCell hB _) (by simp [World.setCell]))
  have e : a.put o.dst undef = a := by rw [hN]; rfl
  first
    | exact h3
    | (show K (a.put o.dst undef) _
       rw [e]
       exact h3)
theorem gate_build (p : Operand) (_ho : o.op = .buildSlice 39 1 #[(0, p)]) {W : World} (h : wpList Tryz.prog ops Q (o :: rest) a W) : wpList Tryz.prog ops Q (o :: rest) a W := h
theorem exec_buildS {W : World} (p : Operand) (ho : o.op = .buildSlice 39 1 #[(0, p)]) {y : Ses} (hp : a.eval p = .agg (sca y)) :
    (execOp a.eval o).run Tryz.prog W = .ok (.value (.slice (some ⟨W.heap.size, 0, none⟩) 1 1)) (W.alloc (.cells (sca y) 33)) := by
  unfold execOp
  simp only [ho, List.map_toArray, List.map_cons, List.map_nil, hp, Sem.run_bind, run_buildS, Result.andThen_ok]
  rfl
end
def BegJ (w : World) (A : Option Addr) (l : List Ses) (c : Nat) (e : Int) (a' : Act) (w' : World) : Prop := ∃ (u1 u2 u3 u4 u5 u6 u7 u8 u9 u10 u12 u13 u14 u15 u16 u17 u18 u19 u20 u21 u22 u23 u24 u25 u26 u27 u28 u29 u30 u31 u32 u33 u34 u35 u36 u37 u38 u39 u40 u41 u42 u43 u44 u45 u46 u47 u48 u49 u50 u51 u52 u53 u54 : Value),
  a' = { tmps := #[.slice A l.length c, u1, u2, u3, u4, u5, u6, u7, u8, u9, u10, .int .i64 e, u12, u13, u14, u15, u16, u17, u18, u19, u20, u21, u22, u23, u24, u25, u26, u27, u28, u29, u30, u31, u32, u33, u34, u35, u36, u37, u38, u39, u40, u41, u42, u43, u44, u45, u46, u47, u48, u49, u50, u51, u52, u53, u54], defers := [] } ∧ Aside0 (Below w.heap.size w w')
set_option maxHeartbeats 4000000 in
set_option maxRecDepth 100000 in
theorem begin_a1 (x : Ses) (idle now : Int) (l : List Ses) (A : Option Addr) (c : Nat) (w : World) (hr : kS.C w A l.length l) (hc : l.length ≤ c) (hl : l.length < 1000000)  (hf : mayS l = false) :
    Calls Tryz.prog 85 #[.slice A l.length c, .agg (sca x), .int .i64 idle, .int .i64 now] w fun e w' => ∃ v : Value, e = .returned (.tuple #[v, .int .i64 1]) ∧ ToldO w.heap.size w' v l ∧ Below w.heap.size w w' := by
  have HR := aq_ hr
  have HC := aq_ hc
  have HL := aq_ hl
  clear hr hc hl
  have HM := aq_ hf
  clear hf
  go_enter Tryz.func85, Tryz.ntmps85
  go_wp2
  refine wp_scope_jumps 0 (BegJ w A l c 1) (fun _ _ => 0) rfl ?_ ?_
  · go_wp2_with (first
      | (go_at_call 52; refine (clone_any l A c (BegW w x idle now) (Kd.C_below HR.out (begW_below w x idle now)) HL.out).mono ?_; rintro e w1 ⟨v, rfl, ho, hb⟩; rw [begW_size] at ho; obtain ⟨A1, c1, rfl⟩ := Kd.R_slice ho; have HO := aq_ ho; have X := aq_ (begX_below (begX_new w x idle now) hb); have HB := aq_ (below_step (begW_below w x idle now) hb); obtain ⟨x0, x1, x2, x3, x4, x5, x6⟩ := cellsS X.out.1; have k1 := blk_cell X.out.2.1 0; have k2 := blk_cell X.out.2.2 0; clear ho hb)
      | (go_at_call 44; (with_reducible refine (mayL_any l A c _ (Kd.C_below HR.out HB.out) HC.out).mono ?_); rintro e w1 ⟨he_, hb⟩; rw [HM.out] at he_; subst he_; clear x0 x1 x2 x3 x4 x5 x6 k1 k2; have X := aq_ (begX_below X.out hb); have HO := aq_ (Kd.R_below HO.out hb); have HB := aq_ (below_step HB.out hb); obtain ⟨x0, x1, x2, x3, x4, x5, x6⟩ := cellsS X.out.1; have k1 := blk_cell X.out.2.1 0; have k2 := blk_cell X.out.2.2 0; clear hb))
    go_step3
    exact ⟨rfl, _, _, _, _, _, _, _, _, _, _, _, _, _, _, _, _, _, _, _, _, _, _, _, _, _, _, _, _, _, _, _, _, _, _, _, _, _, _, _, _, _, _, _, _, _, _, _, _, _, _, _, _, _, rfl, HB⟩
  · rintro a' w' ⟨u1, u2, u3, u4, u5, u6, u7, u8, u9, u10, u12, u13, u14, u15, u16, u17, u18, u19, u20, u21, u22, u23, u24, u25, u26, u27, u28, u29, u30, u31, u32, u33, u34, u35, u36, u37, u38, u39, u40, u41, u42, u43, u44, u45, u46, u47, u48, u49, u50, u51, u52, u53, u54, rfl, HB⟩
    go_wp2_with (go_at_call 52; (with_reducible refine (clone_any l A c _ (Kd.C_below HR.out HB.out) HL.out).mono ?_); rintro e w1 ⟨v, rfl, ho, hb⟩; have HO := aq_ (Kd.R_lower ho HB.out.size); have HB := aq_ (below_step HB.out hb); clear ho hb)
    simp only [Exit.jump]
    go_ret2
    exact ⟨_, rfl, told_O HO.out, HB.out⟩
set_option maxHeartbeats 4000000 in
set_option maxRecDepth 100000 in
theorem begin_a2 (x : Ses) (idle now : Int) (l : List Ses) (A : Option Addr) (c : Nat) (w : World) (hr : kS.C w A l.length l) (hc : l.length ≤ c) (hl : l.length < 1000000) (h1 : mayS l = true) (hf : timesB idle now = false) :
    Calls Tryz.prog 85 #[.slice A l.length c, .agg (sca x), .int .i64 idle, .int .i64 now] w fun e w' => ∃ v : Value, e = .returned (.tuple #[v, .int .i64 1]) ∧ ToldO w.heap.size w' v l ∧ Below w.heap.size w w' := by
  have HR := aq_ hr
  have HC := aq_ hc
  have HL := aq_ hl
  clear hr hc hl
  have HM := aq_ h1
  have HT := aq_ hf
  clear h1 hf
  go_enter Tryz.func85, Tryz.ntmps85
  go_wp2
  refine wp_scope_jumps 0 (BegJ w A l c 1) (fun _ _ => 0) rfl ?_ ?_
  · go_wp2_with (first
      | (go_at_call 52; refine (clone_any l A c (BegW w x idle now) (Kd.C_below HR.out (begW_below w x idle now)) HL.out).mono ?_; rintro e w1 ⟨v, rfl, ho, hb⟩; rw [begW_size] at ho; obtain ⟨A1, c1, rfl⟩ := Kd.R_slice ho; have HO := aq_ ho; have X := aq_ (begX_below (begX_new w x idle now) hb); have HB := aq_ (below_step (begW_below w x idle now) hb); obtain ⟨x0, x1, x2, x3, x4, x5, x6⟩ := cellsS X.out.1; have k1 := blk_cell X.out.2.1 0; have k2 := blk_cell X.out.2.2 0; clear ho hb)
      | (go_at_call 44; (with_reducible refine (mayL_any l A c _ (Kd.C_below HR.out HB.out) HC.out).mono ?_); rintro e w1 ⟨he_, hb⟩; rw [HM.out] at he_; subst he_; clear x0 x1 x2 x3 x4 x5 x6 k1 k2; have X := aq_ (begX_below X.out hb); have HO := aq_ (Kd.R_below HO.out hb); have HB := aq_ (below_step HB.out hb); obtain ⟨x0, x1, x2, x3, x4, x5, x6⟩ := cellsS X.out.1; have k1 := blk_cell X.out.2.1 0; have k2 := blk_cell X.out.2.2 0; clear hb)
      | (go_at_call 98; (with_reducible refine (times_any idle now _).mono ?_); rintro e w1 ⟨he_, rfl⟩; rw [HT.out] at he_; subst he_))
    go_step3
    exact ⟨rfl, _, _, _, _, _, _, _, _, _, _, _, _, _, _, _, _, _, _, _, _, _, _, _, _, _, _, _, _, _, _, _, _, _, _, _, _, _, _, _, _, _, _, _, _, _, _, _, _, _, _, _, _, _, rfl, HB⟩
  · rintro a' w' ⟨u1, u2, u3, u4, u5, u6, u7, u8, u9, u10, u12, u13, u14, u15, u16, u17, u18, u19, u20, u21, u22, u23, u24, u25, u26, u27, u28, u29, u30, u31, u32, u33, u34, u35, u36, u37, u38, u39, u40, u41, u42, u43, u44, u45, u46, u47, u48, u49, u50, u51, u52, u53, u54, rfl, HB⟩
    go_wp2_with (go_at_call 52; (with_reducible refine (clone_any l A c _ (Kd.C_below HR.out HB.out) HL.out).mono ?_); rintro e w1 ⟨v, rfl, ho, hb⟩; have HO := aq_ (Kd.R_lower ho HB.out.size); have HB := aq_ (below_step HB.out hb); clear ho hb)
    simp only [Exit.jump]
    go_ret2
    exact ⟨_, rfl, told_O HO.out, HB.out⟩
set_option maxHeartbeats 4000000 in
set_option maxRecDepth 100000 in
theorem begin_a3 (x : Ses) (idle now : Int) (l : List Ses) (A : Option Addr) (c : Nat) (w : World) (hr : kS.C w A l.length l) (hc : l.length ≤ c) (hl : l.length < 1000000) (h1 : mayS l = true) (h2 : timesB idle now = true) (hf : mayB x = false) :
    Calls Tryz.prog 85 #[.slice A l.length c, .agg (sca x), .int .i64 idle, .int .i64 now] w fun e w' => ∃ v : Value, e = .returned (.tuple #[v, .int .i64 1]) ∧ ToldO w.heap.size w' v l ∧ Below w.heap.size w w' := by
  have HR := aq_ hr
  have HC := aq_ hc
  have HL := aq_ hl
  clear hr hc hl
  have HM := aq_ h1
  have HT := aq_ h2
  have HMX := aq_ hf
  clear h1 h2 hf
  go_enter Tryz.func85, Tryz.ntmps85
  go_wp2
  refine wp_scope_jumps 0 (BegJ w A l c 1) (fun _ _ => 0) rfl ?_ ?_
  · go_wp2_with (first
      | (go_at_call 52; refine (clone_any l A c (BegW w x idle now) (Kd.C_below HR.out (begW_below w x idle now)) HL.out).mono ?_; rintro e w1 ⟨v, rfl, ho, hb⟩; rw [begW_size] at ho; obtain ⟨A1, c1, rfl⟩ := Kd.R_slice ho; have HO := aq_ ho; have X := aq_ (begX_below (begX_new w x idle now) hb); have HB := aq_ (below_step (begW_below w x idle now) hb); obtain ⟨x0, x1, x2, x3, x4, x5, x6⟩ := cellsS X.out.1; have k1 := blk_cell X.out.2.1 0; have k2 := blk_cell X.out.2.2 0; clear ho hb)
      | (go_at_call 44; (with_reducible refine (mayL_any l A c _ (Kd.C_below HR.out HB.out) HC.out).mono ?_); rintro e w1 ⟨he_, hb⟩; rw [HM.out] at he_; subst he_; clear x0 x1 x2 x3 x4 x5 x6 k1 k2; have X := aq_ (begX_below X.out hb); have HO := aq_ (Kd.R_below HO.out hb); have HB := aq_ (below_step HB.out hb); obtain ⟨x0, x1, x2, x3, x4, x5, x6⟩ := cellsS X.out.1; have k1 := blk_cell X.out.2.1 0; have k2 := blk_cell X.out.2.2 0; clear hb)
      | (go_at_call 98; (with_reducible refine (times_any idle now _).mono ?_); rintro e w1 ⟨he_, rfl⟩; rw [HT.out] at he_; subst he_)
      | ((with_reducible refine gate_load 33 (.tmp 5) rfl ?_); refine load_Sw (.tmp 5) rfl (by rfl) (p := ⟨w.heap.size, 0, none⟩) rfl (cells_box X.out.1) ?_)
      | (go_at_call 72; (with_reducible refine (may_any x _).mono ?_); rintro e w1 ⟨he_, hb⟩; rw [HMX.out] at he_; subst he_; clear x0 x1 x2 x3 x4 x5 x6 k1 k2; have X := aq_ (begX_below X.out hb); have HO := aq_ (Kd.R_below HO.out hb); have HB := aq_ (below_step HB.out hb); obtain ⟨x0, x1, x2, x3, x4, x5, x6⟩ := cellsS X.out.1; have k1 := blk_cell X.out.2.1 0; have k2 := blk_cell X.out.2.2 0; clear hb))
    go_step3
    exact ⟨rfl, _, _, _, _, _, _, _, _, _, _, _, _, _, _, _, _, _, _, _, _, _, _, _, _, _, _, _, _, _, _, _, _, _, _, _, _, _, _, _, _, _, _, _, _, _, _, _, _, _, _, _, _, _, rfl, HB⟩
  · rintro a' w' ⟨u1, u2, u3, u4, u5, u6, u7, u8, u9, u10, u12, u13, u14, u15, u16, u17, u18, u19, u20, u21, u22, u23, u24, u25, u26, u27, u28, u29, u30, u31, u32, u33, u34, u35, u36, u37, u38, u39, u40, u41, u42, u43, u44, u45, u46, u47, u48, u49, u50, u51, u52, u53, u54, rfl, HB⟩
    go_wp2_with (go_at_call 52; (with_reducible refine (clone_any l A c _ (Kd.C_below HR.out HB.out) HL.out).mono ?_); rintro e w1 ⟨v, rfl, ho, hb⟩; have HO := aq_ (Kd.R_lower ho HB.out.size); have HB := aq_ (below_step HB.out hb); clear ho hb)
    simp only [Exit.jump]
    go_ret2
    exact ⟨_, rfl, told_O HO.out, HB.out⟩
set_option maxHeartbeats 4000000 in
set_option maxRecDepth 100000 in
theorem begin_a4 (x : Ses) (idle now : Int) (l : List Ses) (A : Option Addr) (c : Nat) (w : World) (hr : kS.C w A l.length l) (hc : l.length ≤ c) (hl : l.length < 1000000) (h1 : mayS l = true) (h2 : timesB idle now = true) (h3 : mayB x = true) (hf : x.isOpen = true) :
    Calls Tryz.prog 85 #[.slice A l.length c, .agg (sca x), .int .i64 idle, .int .i64 now] w fun e w' => ∃ v : Value, e = .returned (.tuple #[v, .int .i64 1]) ∧ ToldO w.heap.size w' v l ∧ Below w.heap.size w w' := by
  have HR := aq_ hr
  have HC := aq_ hc
  have HL := aq_ hl
  clear hr hc hl
  have HM := aq_ h1
  have HT := aq_ h2
  have HMX := aq_ h3
  have HOP := aq_ hf
  clear h1 h2 h3 hf
  go_enter Tryz.func85, Tryz.ntmps85
  go_wp2
  refine wp_scope_jumps 0 (BegJ w A l c 1) (fun _ _ => 0) rfl ?_ ?_
  · go_wp2_with (first
      | (go_at_call 52; refine (clone_any l A c (BegW w x idle now) (Kd.C_below HR.out (begW_below w x idle now)) HL.out).mono ?_; rintro e w1 ⟨v, rfl, ho, hb⟩; rw [begW_size] at ho; obtain ⟨A1, c1, rfl⟩ := Kd.R_slice ho; have HO := aq_ ho; have X := aq_ (begX_below (begX_new w x idle now) hb); have HB := aq_ (below_step (begW_below w x idle now) hb); obtain ⟨x0, x1, x2, x3, x4, x5, x6⟩ := cellsS X.out.1; have k1 := blk_cell X.out.2.1 0; have k2 := blk_cell X.out.2.2 0; clear ho hb)
      | (go_at_call 44; (with_reducible refine (mayL_any l A c _ (Kd.C_below HR.out HB.out) HC.out).mono ?_); rintro e w1 ⟨he_, hb⟩; rw [HM.out] at he_; subst he_; clear x0 x1 x2 x3 x4 x5 x6 k1 k2; have X := aq_ (begX_below X.out hb); have HO := aq_ (Kd.R_below HO.out hb); have HB := aq_ (below_step HB.out hb); obtain ⟨x0, x1, x2, x3, x4, x5, x6⟩ := cellsS X.out.1; have k1 := blk_cell X.out.2.1 0; have k2 := blk_cell X.out.2.2 0; clear hb)
      | (go_at_call 98; (with_reducible refine (times_any idle now _).mono ?_); rintro e w1 ⟨he_, rfl⟩; rw [HT.out] at he_; subst he_)
      | ((with_reducible refine gate_load 33 (.tmp 5) rfl ?_); refine load_Sw (.tmp 5) rfl (by rfl) (p := ⟨w.heap.size, 0, none⟩) rfl (cells_box X.out.1) ?_)
      | (go_at_call 72; (with_reducible refine (may_any x _).mono ?_); rintro e w1 ⟨he_, hb⟩; rw [HMX.out] at he_; subst he_; clear x0 x1 x2 x3 x4 x5 x6 k1 k2; have X := aq_ (begX_below X.out hb); have HO := aq_ (Kd.R_below HO.out hb); have HB := aq_ (below_step HB.out hb); obtain ⟨x0, x1, x2, x3, x4, x5, x6⟩ := cellsS X.out.1; have k1 := blk_cell X.out.2.1 0; have k2 := blk_cell X.out.2.2 0; clear hb; rw [HOP.out] at x4))
    go_step3
    exact ⟨rfl, _, _, _, _, _, _, _, _, _, _, _, _, _, _, _, _, _, _, _, _, _, _, _, _, _, _, _, _, _, _, _, _, _, _, _, _, _, _, _, _, _, _, _, _, _, _, _, _, _, _, _, _, _, rfl, HB⟩
  · rintro a' w' ⟨u1, u2, u3, u4, u5, u6, u7, u8, u9, u10, u12, u13, u14, u15, u16, u17, u18, u19, u20, u21, u22, u23, u24, u25, u26, u27, u28, u29, u30, u31, u32, u33, u34, u35, u36, u37, u38, u39, u40, u41, u42, u43, u44, u45, u46, u47, u48, u49, u50, u51, u52, u53, u54, rfl, HB⟩
    go_wp2_with (go_at_call 52; (with_reducible refine (clone_any l A c _ (Kd.C_below HR.out HB.out) HL.out).mono ?_); rintro e w1 ⟨v, rfl, ho, hb⟩; have HO := aq_ (Kd.R_lower ho HB.out.size); have HB := aq_ (below_step HB.out hb); clear ho hb)
    simp only [Exit.jump]
    go_ret2
    exact ⟨_, rfl, told_O HO.out, HB.out⟩
set_option maxHeartbeats 4000000 in
set_option maxRecDepth 100000 in
theorem begin_there (x : Ses) (idle now : Int) (l : List Ses) (A : Option Addr) (c : Nat) (w : World) (hr : kS.C w A l.length l) (hc : l.length ≤ c) (hl : l.length < 1000000) (h1 : mayS l = true) (h2 : timesB idle now = true) (h3 : mayB x = true) (h4 : x.isOpen = false) (hf : findS l x.draw ≠ -1) :
    Calls Tryz.prog 85 #[.slice A l.length c, .agg (sca x), .int .i64 idle, .int .i64 now] w fun e w' => ∃ v : Value, e = .returned (.tuple #[v, .int .i64 6]) ∧ ToldO w.heap.size w' v l ∧ Below w.heap.size w w' := by
  have HR := aq_ hr
  have HC := aq_ hc
  have HL := aq_ hl
  clear hr hc hl
  have HM := aq_ h1
  have HT := aq_ h2
  have HMX := aq_ h3
  have HOP := aq_ h4
  clear h1 h2 h3 h4
  obtain ⟨r, hr0⟩ : ∃ r, findS l x.draw = r := ⟨_, rfl⟩
  have HF := aq_ hr0
  rw [hr0] at hf
  have hf2 : (r == -1) = false := by simpa using hf
  have hf3 : (r != -1) = true := by simpa using hf
  clear hr0 hf
  go_enter Tryz.func85, Tryz.ntmps85
  go_wp2
  refine wp_scope_jumps 0 (BegJ w A l c 6) (fun _ _ => 0) rfl ?_ ?_
  · go_wp2_with (first
      | (go_at_call 52; refine (clone_any l A c (BegW w x idle now) (Kd.C_below HR.out (begW_below w x idle now)) HL.out).mono ?_; rintro e w1 ⟨v, rfl, ho, hb⟩; rw [begW_size] at ho; obtain ⟨A1, c1, rfl⟩ := Kd.R_slice ho; have HO := aq_ ho; have X := aq_ (begX_below (begX_new w x idle now) hb); have HB := aq_ (below_step (begW_below w x idle now) hb); obtain ⟨x0, x1, x2, x3, x4, x5, x6⟩ := cellsS X.out.1; have k1 := blk_cell X.out.2.1 0; have k2 := blk_cell X.out.2.2 0; clear ho hb)
      | (go_at_call 44; (with_reducible refine (mayL_any l A c _ (Kd.C_below HR.out HB.out) HC.out).mono ?_); rintro e w1 ⟨he_, hb⟩; rw [HM.out] at he_; subst he_; clear x0 x1 x2 x3 x4 x5 x6 k1 k2; have X := aq_ (begX_below X.out hb); have HO := aq_ (Kd.R_below HO.out hb); have HB := aq_ (below_step HB.out hb); obtain ⟨x0, x1, x2, x3, x4, x5, x6⟩ := cellsS X.out.1; have k1 := blk_cell X.out.2.1 0; have k2 := blk_cell X.out.2.2 0; clear hb)
      | (go_at_call 98; (with_reducible refine (times_any idle now _).mono ?_); rintro e w1 ⟨he_, rfl⟩; rw [HT.out] at he_; subst he_)
      | ((with_reducible refine gate_load 33 (.tmp 5) rfl ?_); refine load_Sw (.tmp 5) rfl (by rfl) (p := ⟨w.heap.size, 0, none⟩) rfl (cells_box X.out.1) ?_)
      | (go_at_call 72; (with_reducible refine (may_any x _).mono ?_); rintro e w1 ⟨he_, hb⟩; rw [HMX.out] at he_; subst he_; clear x0 x1 x2 x3 x4 x5 x6 k1 k2; have X := aq_ (begX_below X.out hb); have HO := aq_ (Kd.R_below HO.out hb); have HB := aq_ (below_step HB.out hb); obtain ⟨x0, x1, x2, x3, x4, x5, x6⟩ := cellsS X.out.1; have k1 := blk_cell X.out.2.1 0; have k2 := blk_cell X.out.2.2 0; clear hb; rw [HOP.out] at x4)
      | (go_at_call 73; (with_reducible refine (find_any x.draw l A c _ (Kd.C_below HR.out HB.out)).mono ?_); rintro e w1 ⟨he_, hb⟩; rw [HF.out] at he_; subst he_; clear x0 x1 x2 x3 x4 x5 x6 k1 k2; have X := aq_ (begX_below X.out hb); have HO := aq_ (Kd.R_below HO.out hb); have HB := aq_ (below_step HB.out hb); obtain ⟨x0, x1, x2, x3, x4, x5, x6⟩ := cellsS X.out.1; have k1 := blk_cell X.out.2.1 0; have k2 := blk_cell X.out.2.2 0; clear hb))
    go_step3
    exact ⟨rfl, _, _, _, _, _, _, _, _, _, _, _, _, _, _, _, _, _, _, _, _, _, _, _, _, _, _, _, _, _, _, _, _, _, _, _, _, _, _, _, _, _, _, _, _, _, _, _, _, _, _, _, _, _, rfl, HB⟩
  · rintro a' w' ⟨u1, u2, u3, u4, u5, u6, u7, u8, u9, u10, u12, u13, u14, u15, u16, u17, u18, u19, u20, u21, u22, u23, u24, u25, u26, u27, u28, u29, u30, u31, u32, u33, u34, u35, u36, u37, u38, u39, u40, u41, u42, u43, u44, u45, u46, u47, u48, u49, u50, u51, u52, u53, u54, rfl, HB⟩
    go_wp2_with (go_at_call 52; (with_reducible refine (clone_any l A c _ (Kd.C_below HR.out HB.out) HL.out).mono ?_); rintro e w1 ⟨v, rfl, ho, hb⟩; have HO := aq_ (Kd.R_lower ho HB.out.size); have HB := aq_ (below_step HB.out hb); clear ho hb)
    simp only [Exit.jump]
    go_ret2
    exact ⟨_, rfl, told_O HO.out, HB.out⟩
set_option maxHeartbeats 4000000 in
set_option maxRecDepth 100000 in
theorem begin_full (x : Ses) (idle now : Int) (l : List Ses) (A : Option Addr) (c : Nat) (w : World) (hr : kS.C w A l.length l) (hc : l.length ≤ c) (hl : l.length < 1000000) (h1 : mayS l = true) (h2 : timesB idle now = true) (h3 : mayB x = true) (h4 : x.isOpen = false) (h5 : findS l x.draw = -1) (h6 : l.length = 4) (hf : (awakeS l idle now).length = 4) :
    Calls Tryz.prog 85 #[.slice A l.length c, .agg (sca x), .int .i64 idle, .int .i64 now] w fun e w' => ∃ v : Value, e = .returned (.tuple #[v, .int .i64 12]) ∧ ToldO w.heap.size w' v l ∧ Below w.heap.size w w' := by
  have HR := aq_ hr
  have HC := aq_ hc
  have HL := aq_ hl
  clear hr hc hl
  have HM := aq_ h1
  have HT := aq_ h2
  have HMX := aq_ h3
  have HOP := aq_ h4
  clear h1 h2 h3 h4
  have HF := aq_ h5
  clear h5
  have H4 := aq_ (show 3 < l.length by omega)
  have hf1 : ((l.length : Int) == 4) = true := by simp [h6]
  have hf2 : (((awakeS l idle now).length : Int) == 4) = true := by simp [hf]
  clear h6 hf
  go_enter Tryz.func85, Tryz.ntmps85
  go_wp2
  refine wp_scope_jumps 0 (BegJ w A l c 12) (fun _ _ => 0) rfl ?_ ?_
  · go_wp2_with (first
      | (go_at_call 52; refine (clone_any l A c (BegW w x idle now) (Kd.C_below HR.out (begW_below w x idle now)) HL.out).mono ?_; rintro e w1 ⟨v, rfl, ho, hb⟩; rw [begW_size] at ho; obtain ⟨g, cap, rfl, _, _, _⟩ := Kd.R_form ho (Nat.lt_of_le_of_lt (Nat.zero_le 3) H4.out); have HS3 := aq_ (below_size hb); have HO := aq_ ho; have X := aq_ (begX_below (begX_new w x idle now) hb); have HB := aq_ (below_step (begW_below w x idle now) hb); obtain ⟨x0, x1, x2, x3, x4, x5, x6⟩ := cellsS X.out.1; have k1 := blk_cell X.out.2.1 0; have k2 := blk_cell X.out.2.2 0; clear ho hb)
      | (go_at_call 44; (with_reducible refine (mayL_any l A c _ (Kd.C_below HR.out HB.out) HC.out).mono ?_); rintro e w1 ⟨he_, hb⟩; rw [HM.out] at he_; subst he_; clear x0 x1 x2 x3 x4 x5 x6 k1 k2; have X := aq_ (begX_below X.out hb); have HO := aq_ (Kd.R_below HO.out hb); have HS3 := aq_ (Nat.le_trans HS3.out hb.size); have HB := aq_ (below_step HB.out hb); obtain ⟨x0, x1, x2, x3, x4, x5, x6⟩ := cellsS X.out.1; have k1 := blk_cell X.out.2.1 0; have k2 := blk_cell X.out.2.2 0; clear hb)
      | (go_at_call 98; (with_reducible refine (times_any idle now _).mono ?_); rintro e w1 ⟨he_, rfl⟩; rw [HT.out] at he_; subst he_)
      | ((with_reducible refine gate_load 33 (.tmp 5) rfl ?_); refine load_Sw (.tmp 5) rfl (by rfl) (p := ⟨w.heap.size, 0, none⟩) rfl (cells_box X.out.1) ?_)
      | (go_at_call 72; (with_reducible refine (may_any x _).mono ?_); rintro e w1 ⟨he_, hb⟩; rw [HMX.out] at he_; subst he_; clear x0 x1 x2 x3 x4 x5 x6 k1 k2; have X := aq_ (begX_below X.out hb); have HO := aq_ (Kd.R_below HO.out hb); have HS3 := aq_ (Nat.le_trans HS3.out hb.size); have HB := aq_ (below_step HB.out hb); obtain ⟨x0, x1, x2, x3, x4, x5, x6⟩ := cellsS X.out.1; have k1 := blk_cell X.out.2.1 0; have k2 := blk_cell X.out.2.2 0; clear hb; rw [HOP.out] at x4)
      | (go_at_call 73; (with_reducible refine (find_any x.draw l A c _ (Kd.C_below HR.out HB.out)).mono ?_); rintro e w1 ⟨he_, hb⟩; rw [HF.out] at he_; subst he_; clear x0 x1 x2 x3 x4 x5 x6 k1 k2; have X := aq_ (begX_below X.out hb); have HO := aq_ (Kd.R_below HO.out hb); have HS3 := aq_ (Nat.le_trans HS3.out hb.size); have HB := aq_ (below_step HB.out hb); obtain ⟨x0, x1, x2, x3, x4, x5, x6⟩ := cellsS X.out.1; have k1 := blk_cell X.out.2.1 0; have k2 := blk_cell X.out.2.2 0; clear hb)
      | (go_at_call 99; refine (delf_any idle now l g cap (w.heap.size + 3) (w.heap.size + 1) (w.heap.size + 2) _ HO.out (Nat.le_trans (Nat.le_of_eq (begW_size w x idle now).symm) HS3.out) HL.out X.out.2.1 X.out.2.2 (by omega) (by omega)).mono ?_; rintro e w1 ⟨rfl, ho, hb⟩; clear x0 x1 x2 x3 x4 x5 x6 k1 k2; have X := aq_ (begX_base X.out hb); have HO := aq_ ho; have HB := aq_ (HB.out.trans (hb.mono (by omega))); obtain ⟨x0, x1, x2, x3, x4, x5, x6⟩ := cellsS X.out.1; have k1 := blk_cell X.out.2.1 0; have k2 := blk_cell X.out.2.2 0; clear ho hb))
    go_step3
    exact ⟨rfl, _, _, _, _, _, _, _, _, _, _, _, _, _, _, _, _, _, _, _, _, _, _, _, _, _, _, _, _, _, _, _, _, _, _, _, _, _, _, _, _, _, _, _, _, _, _, _, _, _, _, _, _, _, rfl, HB⟩
  · rintro a' w' ⟨u1, u2, u3, u4, u5, u6, u7, u8, u9, u10, u12, u13, u14, u15, u16, u17, u18, u19, u20, u21, u22, u23, u24, u25, u26, u27, u28, u29, u30, u31, u32, u33, u34, u35, u36, u37, u38, u39, u40, u41, u42, u43, u44, u45, u46, u47, u48, u49, u50, u51, u52, u53, u54, rfl, HB⟩
    go_wp2_with (go_at_call 52; (with_reducible refine (clone_any l A c _ (Kd.C_below HR.out HB.out) HL.out).mono ?_); rintro e w1 ⟨v, rfl, ho, hb⟩; have HO := aq_ (Kd.R_lower ho HB.out.size); have HB := aq_ (below_step HB.out hb); clear ho hb)
    simp only [Exit.jump]
    go_ret2
    exact ⟨_, rfl, told_O HO.out, HB.out⟩
set_option maxHeartbeats 4000000 in
set_option maxRecDepth 100000 in
theorem begin_yes (x : Ses) (idle now : Int) (l : List Ses) (A : Option Addr) (c : Nat) (w : World) (hr : kS.C w A l.length l) (hc : l.length ≤ c) (hl : l.length < 1000000) (h1 : mayS l = true) (h2 : timesB idle now = true) (h3 : mayB x = true) (h4 : x.isOpen = false) (h5 : findS l x.draw = -1) (h6 : l.length ≠ 4) :
    Calls Tryz.prog 85 #[.slice A l.length c, .agg (sca x), .int .i64 idle, .int .i64 now] w fun e w' => ∃ v : Value, e = .returned (.tuple #[v, .int .i64 0]) ∧ ToldO w.heap.size w' v (l ++ [{ x with last := now }]) ∧ Below w.heap.size w w' := by
  have HR := aq_ hr
  have HC := aq_ hc
  have HL := aq_ hl
  clear hr hc hl
  have HM := aq_ h1
  have HT := aq_ h2
  have HMX := aq_ h3
  have HOP := aq_ h4
  clear h1 h2 h3 h4
  have HF := aq_ h5
  clear h5
  have hf1 : ((l.length : Int) == 4) = false := by simpa using (show ¬ ((l.length : Int) = 4) by omega)
  have HLEN := aq_ (show (l.length + 1) * 88 ≤ 140737488355328 by have := HL.out; omega)
  clear h6
  go_enter Tryz.func85, Tryz.ntmps85
  go_wp2
  refine wp_scope_straight ?_
  go_wp2_with (first
      | (go_at_call 52; refine (clone_any l A c (BegW w x idle now) (Kd.C_below HR.out (begW_below w x idle now)) HL.out).mono ?_; rintro e w1 ⟨v, rfl, ho, hb⟩; rw [begW_size] at ho; obtain ⟨A1, c1, rfl⟩ := Kd.R_slice ho; have HS3 := aq_ (below_size hb); have HO := aq_ ho; have X := aq_ (begX_below (begX_new w x idle now) hb); have HB := aq_ (below_step (begW_below w x idle now) hb); obtain ⟨x0, x1, x2, x3, x4, x5, x6⟩ := cellsS X.out.1; have k1 := blk_cell X.out.2.1 0; have k2 := blk_cell X.out.2.2 0; clear ho hb)
      | (go_at_call 44; (with_reducible refine (mayL_any l A c _ (Kd.C_below HR.out HB.out) HC.out).mono ?_); rintro e w1 ⟨he_, hb⟩; rw [HM.out] at he_; subst he_; clear x0 x1 x2 x3 x4 x5 x6 k1 k2; have X := aq_ (begX_below X.out hb); have HO := aq_ (Kd.R_below HO.out hb); have HS3 := aq_ (Nat.le_trans HS3.out hb.size); have HB := aq_ (below_step HB.out hb); obtain ⟨x0, x1, x2, x3, x4, x5, x6⟩ := cellsS X.out.1; have k1 := blk_cell X.out.2.1 0; have k2 := blk_cell X.out.2.2 0; clear hb)
      | (go_at_call 98; (with_reducible refine (times_any idle now _).mono ?_); rintro e w1 ⟨he_, rfl⟩; rw [HT.out] at he_; subst he_)
      | ((with_reducible refine gate_load 33 (.tmp 5) rfl ?_); refine load_Sw (.tmp 5) rfl (by rfl) (p := ⟨w.heap.size, 0, none⟩) rfl (cells_box X.out.1) ?_)
      | (go_at_call 72; (with_reducible refine (may_any x _).mono ?_); rintro e w1 ⟨he_, hb⟩; rw [HMX.out] at he_; subst he_; clear x0 x1 x2 x3 x4 x5 x6 k1 k2; have X := aq_ (begX_below X.out hb); have HO := aq_ (Kd.R_below HO.out hb); have HS3 := aq_ (Nat.le_trans HS3.out hb.size); have HB := aq_ (below_step HB.out hb); obtain ⟨x0, x1, x2, x3, x4, x5, x6⟩ := cellsS X.out.1; have k1 := blk_cell X.out.2.1 0; have k2 := blk_cell X.out.2.2 0; clear hb; rw [HOP.out] at x4)
      | (go_at_call 73; (with_reducible refine (find_any x.draw l A c _ (Kd.C_below HR.out HB.out)).mono ?_); rintro e w1 ⟨he_, hb⟩; rw [HF.out] at he_; subst he_; clear x0 x1 x2 x3 x4 x5 x6 k1 k2; have X := aq_ (begX_below X.out hb); have HO := aq_ (Kd.R_below HO.out hb); have HS3 := aq_ (Nat.le_trans HS3.out hb.size); have HB := aq_ (below_step HB.out hb); obtain ⟨x0, x1, x2, x3, x4, x5, x6⟩ := cellsS X.out.1; have k1 := blk_cell X.out.2.1 0; have k2 := blk_cell X.out.2.2 0; clear hb)
      | ((with_reducible refine gate_store2 3 (.tmp 47) (.tmp 46) rfl ?_); refine store_last (.tmp 47) (.tmp 46) rfl rfl rfl now rfl rfl X.out.1 ?_; intro w2 hx1 hx2 hx3 hx4; have XL := aq_ hx1; have HO := aq_ (Kd.R_step (Kd.R_mono (Kd.R_bound HO.out) (ok' := fun k => w.heap.size + 3 ≤ k) (fun k hk => hk.2.1)) (fun k hk _ => hx2 k (by omega))); have HB := aq_ (hx3 _ _ (Nat.le_refl _) HB.out); have HS4 := aq_ (show w.heap.size + 3 ≤ w2.heap.size by rw [hx4]; exact Nat.le_trans (Nat.le_of_eq (begW_size w x idle now).symm) HS3.out); clear x0 x1 x2 x3 x4 x5 x6 k1 k2; clear hx1 hx2 hx3 hx4)
      | (with_reducible refine load_S (.tmp 5) rfl rfl (p := ⟨w.heap.size, 0, none⟩) rfl (cells_box XL.out) ?_)
      | ((with_reducible refine gate_build (.tmp 49) rfl ?_); refine Kd.event_run rfl (exec_buildS (.tmp 49) rfl rfl) ?_)
      | ((with_reducible refine gate_builtin (b := .append) (xs := #[.tmp 48, .tmp 50]) rfl ?_); at_builtin; refine Kd.R_append kS (w0 := w2) (w.heap.size + 3) rfl (.tmp 48) (.tmp 50) 39 33 (.agg (sca zses)) 88 rfl Tryz.underlying39 infoZ (sca_size _) (by decide) (by omega) _ (l) { x with last := now } (scl { x with last := now }) (fun k => w.heap.size + 3 ≤ k) (fun _ => False) rfl rfl rfl (fun _ h => h.elim) ?aF HO.out (Below.refl _ w2) HS4.out ?aL ?_; (case aF => exact fun k hk => Nat.le_trans HS4.out hk); (case aL => exact HLEN.out); intro v1 w1 ho hb hg hat; have HO2 := aq_ ho; have HB2 := aq_ (HB.out.trans (hb.mono (by omega))); clear ho hb hg hat))
  simp only [Exit.noGoto]
  go_ret2
  exact ⟨_, rfl, told_O HO2.out, HB2.out⟩
set_option maxHeartbeats 4000000 in
set_option maxRecDepth 100000 in
theorem begin_cut (x : Ses) (idle now : Int) (l : List Ses) (A : Option Addr) (c : Nat) (w : World) (hr : kS.C w A l.length l) (hc : l.length ≤ c) (hl : l.length < 1000000) (h1 : mayS l = true) (h2 : timesB idle now = true) (h3 : mayB x = true) (h4 : x.isOpen = false) (h5 : findS l x.draw = -1) (h6 : l.length = 4) (h7 : (awakeS l idle now).length ≠ 4) :
    Calls Tryz.prog 85 #[.slice A l.length c, .agg (sca x), .int .i64 idle, .int .i64 now] w fun e w' => ∃ v : Value, e = .returned (.tuple #[v, .int .i64 0]) ∧ ToldO w.heap.size w' v (awakeS l idle now ++ [{ x with last := now }]) ∧ Below w.heap.size w w' := by
  have HR := aq_ hr
  have HC := aq_ hc
  have HL := aq_ hl
  clear hr hc hl
  have HM := aq_ h1
  have HT := aq_ h2
  have HMX := aq_ h3
  have HOP := aq_ h4
  clear h1 h2 h3 h4
  have HF := aq_ h5
  clear h5
  have H4 := aq_ (show 3 < l.length by omega)
  have hf1 : ((l.length : Int) == 4) = true := by simp [h6]
  have hf2 : (((awakeS l idle now).length : Int) == 4) = false := by simpa using (show ¬ (((awakeS l idle now).length : Int) = 4) by omega)
  have HLEN := aq_ (show ((awakeS l idle now).length + 1) * 88 ≤ 140737488355328 by have : (awakeS l idle now).length ≤ l.length := List.length_filter_le _ _; omega)
  clear h6 h7
  go_enter Tryz.func85, Tryz.ntmps85
  go_wp2
  refine wp_scope_straight ?_
  go_wp2_with (first
      | (go_at_call 52; refine (clone_any l A c (BegW w x idle now) (Kd.C_below HR.out (begW_below w x idle now)) HL.out).mono ?_; rintro e w1 ⟨v, rfl, ho, hb⟩; rw [begW_size] at ho; obtain ⟨g, cap, rfl, _, _, _⟩ := Kd.R_form ho (Nat.lt_of_le_of_lt (Nat.zero_le 3) H4.out); have HS3 := aq_ (below_size hb); have HO := aq_ ho; have X := aq_ (begX_below (begX_new w x idle now) hb); have HB := aq_ (below_step (begW_below w x idle now) hb); obtain ⟨x0, x1, x2, x3, x4, x5, x6⟩ := cellsS X.out.1; have k1 := blk_cell X.out.2.1 0; have k2 := blk_cell X.out.2.2 0; clear ho hb)
      | (go_at_call 44; (with_reducible refine (mayL_any l A c _ (Kd.C_below HR.out HB.out) HC.out).mono ?_); rintro e w1 ⟨he_, hb⟩; rw [HM.out] at he_; subst he_; clear x0 x1 x2 x3 x4 x5 x6 k1 k2; have X := aq_ (begX_below X.out hb); have HO := aq_ (Kd.R_below HO.out hb); have HS3 := aq_ (Nat.le_trans HS3.out hb.size); have HB := aq_ (below_step HB.out hb); obtain ⟨x0, x1, x2, x3, x4, x5, x6⟩ := cellsS X.out.1; have k1 := blk_cell X.out.2.1 0; have k2 := blk_cell X.out.2.2 0; clear hb)
      | (go_at_call 98; (with_reducible refine (times_any idle now _).mono ?_); rintro e w1 ⟨he_, rfl⟩; rw [HT.out] at he_; subst he_)
      | ((with_reducible refine gate_load 33 (.tmp 5) rfl ?_); refine load_Sw (.tmp 5) rfl (by rfl) (p := ⟨w.heap.size, 0, none⟩) rfl (cells_box X.out.1) ?_)
      | (go_at_call 72; (with_reducible refine (may_any x _).mono ?_); rintro e w1 ⟨he_, hb⟩; rw [HMX.out] at he_; subst he_; clear x0 x1 x2 x3 x4 x5 x6 k1 k2; have X := aq_ (begX_below X.out hb); have HO := aq_ (Kd.R_below HO.out hb); have HS3 := aq_ (Nat.le_trans HS3.out hb.size); have HB := aq_ (below_step HB.out hb); obtain ⟨x0, x1, x2, x3, x4, x5, x6⟩ := cellsS X.out.1; have k1 := blk_cell X.out.2.1 0; have k2 := blk_cell X.out.2.2 0; clear hb; rw [HOP.out] at x4)
      | (go_at_call 73; (with_reducible refine (find_any x.draw l A c _ (Kd.C_below HR.out HB.out)).mono ?_); rintro e w1 ⟨he_, hb⟩; rw [HF.out] at he_; subst he_; clear x0 x1 x2 x3 x4 x5 x6 k1 k2; have X := aq_ (begX_below X.out hb); have HO := aq_ (Kd.R_below HO.out hb); have HS3 := aq_ (Nat.le_trans HS3.out hb.size); have HB := aq_ (below_step HB.out hb); obtain ⟨x0, x1, x2, x3, x4, x5, x6⟩ := cellsS X.out.1; have k1 := blk_cell X.out.2.1 0; have k2 := blk_cell X.out.2.2 0; clear hb)
      | (go_at_call 99; refine (delf_any idle now l g cap (w.heap.size + 3) (w.heap.size + 1) (w.heap.size + 2) _ HO.out (Nat.le_trans (Nat.le_of_eq (begW_size w x idle now).symm) HS3.out) HL.out X.out.2.1 X.out.2.2 (by omega) (by omega)).mono ?_; rintro e w1 ⟨rfl, ho, hb⟩; clear x0 x1 x2 x3 x4 x5 x6 k1 k2; have X := aq_ (begX_base X.out hb); have HO := aq_ ho; have HS3 := aq_ (Nat.le_trans HS3.out hb.size); have HB := aq_ (HB.out.trans (hb.mono (by omega))); obtain ⟨x0, x1, x2, x3, x4, x5, x6⟩ := cellsS X.out.1; have k1 := blk_cell X.out.2.1 0; have k2 := blk_cell X.out.2.2 0; clear ho hb)
      | ((with_reducible refine gate_store2 3 (.tmp 47) (.tmp 46) rfl ?_); refine store_last (.tmp 47) (.tmp 46) rfl rfl rfl now rfl rfl X.out.1 ?_; intro w2 hx1 hx2 hx3 hx4; have XL := aq_ hx1; have HO := aq_ (Kd.R_step (Kd.R_mono (Kd.R_bound HO.out) (ok' := fun k => w.heap.size + 3 ≤ k) (fun k hk => hk.2.1)) (fun k hk _ => hx2 k (by omega))); have HB := aq_ (hx3 _ _ (Nat.le_refl _) HB.out); have HS4 := aq_ (show w.heap.size + 3 ≤ w2.heap.size by rw [hx4]; exact Nat.le_trans (Nat.le_of_eq (begW_size w x idle now).symm) HS3.out); clear x0 x1 x2 x3 x4 x5 x6 k1 k2; clear hx1 hx2 hx3 hx4)
      | (with_reducible refine load_S (.tmp 5) rfl rfl (p := ⟨w.heap.size, 0, none⟩) rfl (cells_box XL.out) ?_)
      | ((with_reducible refine gate_build (.tmp 49) rfl ?_); refine Kd.event_run rfl (exec_buildS (.tmp 49) rfl rfl) ?_)
      | ((with_reducible refine gate_builtin (b := .append) (xs := #[.tmp 48, .tmp 50]) rfl ?_); at_builtin; refine Kd.R_append kS (w0 := w2) (w.heap.size + 3) rfl (.tmp 48) (.tmp 50) 39 33 (.agg (sca zses)) 88 rfl Tryz.underlying39 infoZ (sca_size _) (by decide) (by omega) _ (awakeS l idle now) { x with last := now } (scl { x with last := now }) (fun k => w.heap.size + 3 ≤ k) (fun _ => False) rfl rfl rfl (fun _ h => h.elim) ?aF HO.out (Below.refl _ w2) HS4.out ?aL ?_; (case aF => exact fun k hk => Nat.le_trans HS4.out hk); (case aL => exact HLEN.out); intro v1 w1 ho hb hg hat; have HO2 := aq_ ho; have HB2 := aq_ (HB.out.trans (hb.mono (by omega))); clear ho hb hg hat))
  simp only [Exit.noGoto]
  go_ret2
  exact ⟨_, rfl, told_O HO2.out, HB2.out⟩
theorem begin_any (x : Ses) (idle now : Int) (l : List Ses) (A : Option Addr) (c : Nat) (w : World) (hr : kS.C w A l.length l) (hc : l.length ≤ c) (hl : l.length < 1000000) (r1 : List Ses) (r2 : Int) (h : beginS l x idle now = (r1, r2)) :
    Calls Tryz.prog 85 #[.slice A l.length c, .agg (sca x), .int .i64 idle, .int .i64 now] w fun e w' => ∃ v : Value, e = .returned (.tuple #[v, .int .i64 r2]) ∧ ToldO w.heap.size w' v r1 ∧ Below w.heap.size w w' := by
  unfold beginS at h
  cases h1 : mayS l with
  | false =>
    rw [if_pos (.inl h1)] at h
    cases h
    exact begin_a1 x idle now _ A c w hr hc hl h1
  | true =>
  cases h2 : timesB idle now with
  | false =>
    rw [if_pos (.inr (.inl h2))] at h
    cases h
    exact begin_a2 x idle now _ A c w hr hc hl h1 h2
  | true =>
  cases h3 : mayB x with
  | false =>
    rw [if_pos (.inr (.inr (.inl h3)))] at h
    cases h
    exact begin_a3 x idle now _ A c w hr hc hl h1 h2 h3
  | true =>
  cases h4 : x.isOpen with
  | true =>
    rw [if_pos (.inr (.inr (.inr h4)))] at h
    cases h
    exact begin_a4 x idle now _ A c w hr hc hl h1 h2 h3 h4
  | false =>
  rw [if_neg (by rw [h1, h2, h3, h4]; simp)] at h
  by_cases h5 : findS l x.draw = -1
  · rw [if_pos h5] at h
    by_cases h6 : l.length = 4
    · rw [if_pos h6] at h
      by_cases h7 : (awakeS l idle now).length = 4
      · rw [if_pos h7] at h
        cases h
        exact begin_full x idle now _ A c w hr hc hl h1 h2 h3 h4 h5 h6 h7
      · rw [if_neg h7] at h
        cases h
        exact begin_cut x idle now _ A c w hr hc hl h1 h2 h3 h4 h5 h6 h7
    · rw [if_neg h6, if_neg h6] at h
      cases h
      exact begin_yes x idle now _ A c w hr hc hl h1 h2 h3 h4 h5 h6
  · rw [if_neg h5] at h
    cases h
    exact begin_there x idle now _ A c w hr hc hl h1 h2 h3 h4 h5
end Go.Proofs.YtdinphnljokigaaGreat.P
end

section
namespace Go.Proofs.YtdinphnljokigaaGreat.P
open Go.RowKit Go.Proofs.YtdinphnljokigaaGreatW.PrintWords Go.Proofs.YtdinphnljokigaaGreatW.PrintLast Go.Proofs.YtdinphnljokigaaGreatW.PrintMore
def word (n : Int) : S24 := ⟨0, n, []⟩
def rowT : List Int → S24
 | [] => z24
 | [x] => word x
 | x :: y :: l => ⟨2, 0, [word x, rowT (y :: l)]⟩
def okRow (l : List Int) : Bool := decide (l ≠ []) && (decide (l.length ≤ 12) && l.all fun x => decide (0 ≤ x))
def rowR (l : List Int) : S24 := if okRow l = true then rowT l else z24
theorem FK_word (W : World) (ok : Nat → Prop) (n : Int) : Kd.FK k24 W ok (word n) [.int .i64 0, .int .i64 n, .slice none 0 0] :=
 k24_mkF W ok (word n) (A2 := none) (c2 := 0) (Nat.le_refl _) (Kd.F_nil _ _ _)
theorem FK_of_V {W : World} {base : Nat} {ok : Nat → Prop} {x : S24} {v : Value} (h : Kd.V k24 36 W base ok v x.f2) : Kd.FK k24 W ok x [.int .i64 x.f0, .int .i64 x.f1, v] := by
 obtain ⟨A, c, rfl, hl, hF⟩ := h
 exact k24_mkF W ok x hl hF
theorem F_two {W : World} {ok : Nat → Prop} {g : Nat} {a b : S24} {a0 a1 a2 b0 b1 b2 : Value} (hg : W.heap[g]? = some (.cells #[a0, a1, a2, b0, b1, b2] 36 (0, 0))) (hok : ok g) (ha : Kd.FK k24 W ok a [a0, a1, a2]) (hb : Kd.FK k24 W ok b [b0, b1, b2]) :
  Kd.F k24 W ok (some ⟨g, 0, none⟩) 2 [a, b] := by
 intro W' hW
 have hg' : W'.heap[g]? = some (.cells #[a0, a1, a2, b0, b1, b2] 36 (0, 0)) := (hW g hok (blk_lt hg)).trans hg
 refine ⟨rfl, by omega, fun _ => ⟨_, rfl, fun j p hj => ?_⟩⟩
 have hc : ∀ i, W'.cell? ((⟨g, 0, none⟩ : Addr).add i) = #[a0, a1, a2, b0, b1, b2][i]? := fun i => by
  rw [add_plain]
  exact blk_cell hg' i
 rcases j with _ | _ | j
 ·simp only [List.getElem?_cons_zero, Option.some.injEq] at hj
  subst hj
  refine ⟨_, rfl, ha W' hW, fun i u hu => ?_⟩
  rw [hc, Nat.zero_mul, Nat.zero_add]
  rcases i with _ | _ | _ | i
  all_goals first | (simp at hu; done) | exact hu
 ·simp only [List.getElem?_cons_succ, List.getElem?_cons_zero, Option.some.injEq] at hj
  subst hj
  refine ⟨_, rfl, hb W' hW, fun i u hu => ?_⟩
  rw [hc]
  rcases i with _ | _ | _ | i
  all_goals first | (simp at hu; done) | exact hu
 ·simp at hj
theorem V_two {W : World} {base : Nat} {ok : Nat → Prop} {g : Nat} {a b : S24} {a0 a1 a2 b0 b1 b2 : Value} (hg : W.heap[g]? = some (.cells #[a0, a1, a2, b0, b1, b2] 36 (0, 0))) (hok : ok g) (ha : Kd.FK k24 W ok a [a0, a1, a2]) (hb : Kd.FK k24 W ok b [b0, b1, b2]) :
  Kd.V k24 36 W base ok (.slice (some ⟨g, 0, none⟩) 2 2) [a, b] := ⟨_, _, rfl, Nat.le_refl _, F_two hg hok ha hb⟩
theorem sl_hi (ad : Addr) (n c m : Nat) (hm : m ≤ c) : ∀ W : World, (Instr.slice 50 (.slice (some ad) n c) none (some (.int .i64 m)) none).run Tryz.prog W = .ok (.slice (some ad) m c) W := by
 intro W
 have hel : Tryz.prog.elem 50 = 3 := by simp [Program.elem, Tryz.underlying50]
 have hu : Tryz.prog.underlying 50 = some (.slice (Tryz.prog.elem 50)) := by rw [hel]; exact Tryz.underlying50
 obtain ⟨i0, hi, hzz⟩ := Option.map_eq_some_iff.1 info3
 simp only [Prod.mk.injEq] at hzz
 obtain ⟨_, hz1, _⟩ := hzz
 rw [run_slice_h W 50 (some ad) n c hu .i64 m (by omega) (by omega), hel]
 have e0 : ad.add 0 = ad := by simp [Addr.add]
 simp [sizeOf, typeInfo, hi, hz1, sliced, Result.andThen, e0]
end Go.Proofs.YtdinphnljokigaaGreat.P
end
