/- By hand: slices.Clone of bytes, and store.own. -/
import Derived.Test.YtlldfihhdbbicaaPx1
import Derived.Test.YtlldfihhdbbicaaHPureKit
namespace Go.Proofs.Ytlldfihhdbbicaa.P
open Go.RowKit Go.Proofs.YtlldfihhdbbicaaW.PrintWords Go.Proofs.YtlldfihhdbbicaaW.PrintLast Go.Proofs.YtlldfihhdbbicaaW.PrintMore
set_option linter.unusedVariables false
set_option linter.unusedSimpArgs false
theorem eq_nil_no (ad : Addr) (n c : Nat) (w : World) : Sem.run Try.prog (binOp .eql 22 (.slice (some ad) n c) (.slice none 0 0)) w = .ok (.bool false) w := by
  kernel_rfl
theorem eq_nil_yes (n c : Nat) (w : World) : Sem.run Try.prog (binOp .eql 22 (.slice none n c) (.slice none 0 0)) w = .ok (.bool true) w := by
  kernel_rfl
def slices_Clone_byte_byte.f (l0 : List Int) : Option (List Int) := if l0.length < 140737488355328 then some l0 else none
set_option maxHeartbeats 400000 in
set_option maxRecDepth 100000 in
theorem slices_Clone_byte_byte.calls (A0 : Option Addr) (c0 : Nat) (l0 : List Int) (r : List Int) (w : World) (hr0 : Kd.C (Kd.int .u8) w A0 l0.length l0) (hc0 : l0.length ≤ c0) (h : slices_Clone_byte_byte.f l0 = some r) :
    Calls Try.prog 33 #[.slice A0 l0.length c0] w fun e w' => ∃ v0_ : Value, e = .returned (v0_) ∧ Kd.R (Kd.int .u8) 5 w' w.heap.size (fun _ => True) v0_ r ∧ Below w.heap.size w w' := by
  unfold slices_Clone_byte_byte.f at h
  split at h
  case isFalse => simp at h
  rename_i hl
  obtain rfl := Option.some.inj h
  clear h
  have HR := Aside0.mk hr0
  have HL := Aside0.mk hl
  have HB := Aside0.mk (Below.refl w.heap.size w)
  cases A0 with
  | none =>
    have hnil : l0 = [] := by
      rcases l0 with _ | ⟨x, l⟩
      · rfl
      · obtain ⟨ad, e, _⟩ := hr0.2.2 (by simp)
        simp at e
    subst hnil
    have e1 := eq_nil_yes 0 c0
    clear hr0 hc0 hl
    go_enter Try.func33, Try.ntmps33
    go_wp2
    go_ret
    exact ⟨_, rfl, Kd.R_nil _ _ _ _ _, HB.out⟩
  | some ad =>
    have e1 := eq_nil_no ad l0.length c0
    clear hr0 hl
    go_enter Try.func33, Try.ntmps33
    go_wp2_with (first | ((with_reducible refine gate_builtin (b := .append) (xs := #[.tmp 5, .tmp 6]) rfl ?_); (try (refine gate_guard (by rfl) ?_; dsimp only)); at_builtin; refine Kd.R_append_rows (Kd.int .u8) (w0 := w) w.heap.size rfl (.tmp 5) (.tmp 6) 22 5 (.int .u8 0) 1 rfl Try.underlying22 info5 rfl (by decide) (by omega) (.slice (some ⟨w.heap.size, 0, none⟩) 0 0) ([] : List Int) l0 _ _ _ (fun _ => True) (fun _ => False) rfl rfl ?aO ?aR (fun _ _ h => h) (fun _ h => h.elim) ?aF ?aB ?aS ?aL ?_; (case aR => exact Kd.C_alloc HR.out _); (case aB => exact below_alloc HB.out _); (case aF => exact fun _ _ => trivial); (case aO => exact Kd.R_of_own (own_lit_of w w.heap.size 5 [] (Nat.le_refl _) (by simp)) (fun _ _ => trivial)); (case aS => exact below_size (below_alloc HB.out _)); (case aL => have := HL.out; simpa using (by omega : l0.length ≤ 140737488355328)); intro v1 w1 ho hb hg hat; have HO1 := Aside0.mk ho; have HB1 := Aside0.mk hb; clear ho hb hg hat))
    go_ret
    exact ⟨_, rfl, HO1.out, HB1.out⟩
/-- What a call leaves of two blocks that were made ahead of it. -/
theorem two_blocks {w w2 : World} {cs ds : Array Value} {t u : TypeId} (hb : Below ((w.alloc (.cells cs t)).alloc (.cells ds u)).heap.size ((w.alloc (.cells cs t)).alloc (.cells ds u)) w2) : w2.heap[w.heap.size]? = some (.cells cs t (0, 0)) ∧ w2.heap[w.heap.size + 1]? = some (.cells ds u (0, 0)) := by
  have h1 := blk_below (blk_alloc (blk_new w (.cells cs t)) (.cells ds u)) hb
  have h2 := blk_below (blk_new (w.alloc (.cells cs t)) (.cells ds u)) hb
  have hsz : (w.alloc (.cells cs t)).heap.size = w.heap.size + 1 := Array.size_push _
  rw [hsz] at h2
  exact ⟨h1, h2⟩
theorem cells3 {w : World} {g : Nat} {t : TypeId} {x y z : Value} (h : w.heap[g]? = some (.cells #[x, y, z] t (0, 0))) : (w.cell? ⟨g, 0, none⟩ = some x ∧ w.cell? ⟨g, 1, none⟩ = some y ∧ w.cell? ⟨g, 2, none⟩ = some z) ∧ (w.frozen? ⟨g, 0, none⟩ = false ∧ w.frozen? ⟨g, 1, none⟩ = false ∧ w.frozen? ⟨g, 2, none⟩ = false) :=
  ⟨⟨blk_cell h 0, blk_cell h 1, blk_cell h 2⟩, blk_frozen h 0, blk_frozen h 1, blk_frozen h 2⟩
def store_own.f (a0_0 : Int) (l0_1 : List Int) (a0_2 : Int) : Option (Int × List Int × Int) := (slices_Clone_byte_byte.f l0_1).bind fun l => some (a0_0, l, a0_2)
set_option maxHeartbeats 400000 in
set_option maxRecDepth 100000 in
theorem store_own.calls (a0_0 : Int) (A0_1 : Option Addr) (c0_1 : Nat) (l0_1 : List Int) (a0_2 : Int) (r1 : Int) (r2 : List Int) (r3 : Int) (w : World) (hr0_1 : Kd.C (Kd.int .u8) w A0_1 l0_1.length l0_1) (hc0_1 : l0_1.length ≤ c0_1) (h : store_own.f a0_0 l0_1 a0_2 = some (r1, r2, r3)) :
    Calls Try.prog 27 #[.agg #[.int .i64 a0_0, .slice A0_1 l0_1.length c0_1, .int .i64 a0_2]] w fun e w' => ∃ v1_ : Value, e = .returned (.agg #[.int .i64 r1, v1_, .int .i64 r3]) ∧ Kd.R (Kd.int .u8) 5 w' w.heap.size (fun _ => True) v1_ r2 ∧ Below w.heap.size w w' := by
  unfold store_own.f at h
  obtain ⟨l, h1, h2⟩ := Option.bind_eq_some_iff.mp h
  simp only [Option.some.injEq, Prod.mk.injEq] at h2
  obtain ⟨rfl, rfl, rfl⟩ := h2
  clear h
  have HR := Aside0.mk hr0_1
  have HC := Aside0.mk hc0_1
  have H1 := Aside0.mk h1
  have HB := Aside0.mk (Below.refl w.heap.size w)
  clear hr0_1 hc0_1 h1
  go_enter Try.func27, Try.ntmps27
  go_wp2_with (first | (go_at_call 33; refine (slices_Clone_byte_byte.calls A0_1 c0_1 l0_1 l _ (Kd.C_alloc (Kd.C_alloc HR.out _) _) HC.out H1.out).mono ?_; rintro e w2 ⟨v1, rfl, hR, hb⟩; obtain ⟨A1, c1, rfl⟩ := Kd.R_slice hR; obtain ⟨b1, b2⟩ := two_blocks hb; obtain ⟨⟨k0, k1, k2⟩, f0, f1, f2⟩ := cells3 b1; obtain ⟨⟨j0, j1, j2⟩, g0, g1, g2⟩ := cells3 b2; have B1 := Aside0.mk b1; have B2 := Aside0.mk b2; have Hb := Aside0.mk hb; have HR2 := Aside0.mk hR; clear b1 b2 hb hR))
  refine bodyPost_ret (results_cell_row rfl _ _ (w.heap.size + 1) 24 #[.int .i64 a0_0, .slice A1 l.length c1, .int .i64 a0_2] (0, 0) _ rfl (blk_put (blk_put (blk_put (blk_far B2.out (by show w.heap.size + 1 ≠ w.heap.size; omega) _) 0 _ rfl) 1 _ rfl) 2 _ rfl) Try.underlying24 rfl (by kernel_rfl)) rfl ⟨_, rfl, ?_, ?_⟩
  · refine Kd.R_mono (Kd.R_far (Kd.R_far (Kd.R_far (Kd.R_far (Kd.R_types (Kd.R_types (Kd.R_lower HR2.out ?_) B1.out (by decide)) B2.out (by decide)) (fun k hk => hk.1.2) _) (fun k hk => hk.2) _) (fun k hk => hk.2) _) (fun k hk => hk.2) _) (fun _ _ => trivial)
    exact below_size (below_alloc (below_alloc (Below.refl _ _) _) _)
  · exact below_set (below_set (below_set (below_set (below_step (below_alloc (below_alloc (Below.refl _ _) _) _) Hb.out) (Nat.le_refl _)) (Nat.le_succ _)) (Nat.le_succ _)) (Nat.le_succ _)
end Go.Proofs.Ytlldfihhdbbicaa.P
