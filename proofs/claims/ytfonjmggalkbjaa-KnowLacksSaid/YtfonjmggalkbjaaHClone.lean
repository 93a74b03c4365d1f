/- By hand: slices.Clone of terms (its elements are shared). -/
import Derived.Test.YtfonjmggalkbjaaHTree
namespace Go.Proofs.Ytfonjmggalkbjaa.P
open Go.RowKit Go.Proofs.YtfonjmggalkbjaaW.PrintWords Go.Proofs.YtfonjmggalkbjaaW.PrintLast Go.Proofs.YtfonjmggalkbjaaW.PrintMore
set_option linter.unusedVariables false
set_option linter.unusedSimpArgs false
theorem eq_nil_no (ad : Addr) (n c : Nat) (w : World) : Sem.run Try.prog (binOp .eql 22 (.slice (some ad) n c) (.slice none 0 0)) w = .ok (.bool false) w := by
  kernel_rfl
theorem eq_nil_yes (n c : Nat) (w : World) : Sem.run Try.prog (binOp .eql 22 (.slice none n c) (.slice none 0 0)) w = .ok (.bool true) w := by
  kernel_rfl
/-- A literal without elements. -/
theorem N_lit0 (W : World) (base : Nat) (ok : Nat → Prop) (hb : base ≤ W.heap.size) (hok : ∀ k, W.heap.size ≤ k → ok k) : Kd.N k24 24 (W.alloc (.cells #[] 24)) base ok (.slice (some ⟨W.heap.size, 0, none⟩) 0 0) ([] : List S24) :=
  ⟨fun k hk => hok k (by simp [Value.ownBlock] at hk; omega), [], rfl, ⟨fun k hk => hk.symm, [], ⟨by simp, .inr ⟨W.heap.size, 0, #[], rfl, hb, blk_new W _, Nat.le_refl _, Nat.zero_le _, rfl, rfl⟩⟩, ⟨rfl, fun j p h => by simp at h⟩⟩, fun j x c h => by simp at h⟩
def api_Term_30.f (l0 : List (S24)) : Option ((List (S24))) := if l0.length < 3518437208883 then some l0 else none
set_option maxHeartbeats 400000 in
set_option maxRecDepth 100000 in
theorem api_Term_30.calls (P0_ : Nat → Prop) (A0 : Option Addr) (c0 : Nat) (l0 : List (S24)) (r : List (S24)) (w : World) (hs0 : Kd.V k24 24 w w.heap.size (fun k_ => P0_ k_) (.slice A0 l0.length c0) l0) (h : api_Term_30.f l0 = some r) :
    Calls Try.prog 30 #[.slice A0 l0.length c0] w fun e w' => ∃ v0_ : Value, e = .returned (v0_) ∧ Kd.N k24 24 w' w.heap.size (fun k_ => (P0_ k_ ∨ w.heap.size ≤ k_)) v0_ r ∧ Below w.heap.size w w' := by
  unfold api_Term_30.f at h
  split at h
  case isFalse => simp at h
  rename_i hl
  obtain rfl := Option.some.inj h
  clear h
  have HL := Aside0.mk hl
  have HB := Aside0.mk (Below.refl w.heap.size w)
  obtain ⟨_, _, hF⟩ := Kd.V_at hs0
  have HF := Aside0.mk (Kd.F_alloc (Kd.F_bound hF) (.cells #[] 24))
  cases A0 with
  | none =>
    have hnil : l0 = [] := by
      rcases l0 with _ | ⟨x, l⟩
      · rfl
      · obtain ⟨ad, e, _⟩ := (Kd.F_now hF).2.2 (by simp)
        simp at e
    subst hnil
    have e1 := eq_nil_yes 0 c0
    clear hs0 hl hF HF
    go_enter Try.func30, Try.ntmps30
    go_wp2
    go_ret
    exact ⟨_, rfl, Kd.N_nil _ _ _ _ _, HB.out⟩
  | some ad =>
    have e1 := eq_nil_no ad l0.length c0
    clear hs0 hl hF
    go_enter Try.func30, Try.ntmps30
    go_wp2_with (first | ((with_reducible refine gate_builtin (b := .append) (xs := #[.tmp 5, .tmp 6]) rfl ?_); (try (refine gate_guard (by rfl) ?_; dsimp only)); at_builtin; refine Kd.N_append_rows k24 (w0 := w) w.heap.size rfl (.tmp 5) (.tmp 6) 22 24 (.agg #[.int .i64 0, .int .i64 0, .slice none 0 0]) 40 rfl Try.underlying22 info24 rfl (by decide) (by omega) (.slice (some ⟨w.heap.size, 0, none⟩) 0 0) ([] : List S24) l0 (some ad) l0.length c0 (fun k_ => P0_ k_ ∨ w.heap.size ≤ k_) (fun k_ => P0_ k_ ∧ k_ < w.heap.size) rfl rfl ?aO ?aR ?aP ?aF ?aB ?aS ?aL ?_; (case aR => exact HF.out); (case aP => exact fun k hk => ⟨.inl hk.1, by have := hk.2; simp [Value.ownBlock]; omega⟩); (case aB => exact below_alloc HB.out _); (case aF => exact fun k hk => .inr (by simp at hk; omega)); (case aO => exact N_lit0 w w.heap.size _ (Nat.le_refl _) (fun k hk => .inr hk)); (case aS => exact below_size (below_alloc HB.out _)); (case aL => have := HL.out; simpa using (by omega : l0.length * 40 ≤ 140737488355328)); intro v1 w1 ho hb hg hat; have HO1 := Aside0.mk ho; have HB1 := Aside0.mk hb; clear ho hb hg hat))
    go_ret
    exact ⟨_, rfl, by have := HO1.out; simpa using this, HB1.out⟩
end Go.Proofs.Ytfonjmggalkbjaa.P
