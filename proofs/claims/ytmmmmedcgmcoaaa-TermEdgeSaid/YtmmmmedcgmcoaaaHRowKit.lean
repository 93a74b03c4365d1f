/- Words for rows of terms that are made. -/
import Derived.Test.YtmmmmedcgmcoaaaHTree
namespace Go.Proofs.Ytmmmmedcgmcoaaa.P
open Go.RowKit Go.Proofs.YtmmmmedcgmcoaaaW.PrintWords Go.Proofs.YtmmmmedcgmcoaaaW.PrintLast Go.Proofs.YtmmmmedcgmcoaaaW.PrintMore
set_option linter.unusedVariables false
set_option linter.unusedSimpArgs false
def word (n : Int) : S24 := ⟨0, n, []⟩
def rowT : List Int → S24
  | [] => z24
  | [x] => word x
  | x :: y :: l => ⟨2, 0, [word x, rowT (y :: l)]⟩
def okRow (l : List Int) : Bool := decide (l ≠ []) && (decide (l.length ≤ 12) && l.all fun x => decide (0 ≤ x))
def rowR (l : List Int) : S24 := if okRow l = true then rowT l else z24
theorem FK_word (W : World) (ok : Nat → Prop) (n : Int) : Kd.FK k24 W ok (word n) [.int .i64 0, .int .i64 n, .slice none 0 0] :=
  k24_mkF W ok (word n) (A2 := none) (c2 := 0) (Nat.le_refl _) (Kd.F_nil _ _ _)
theorem FK_of_V {W : World} {base : Nat} {ok : Nat → Prop} {x : S24} {v : Value} (h : Kd.V k24 24 W base ok v x.f2) : Kd.FK k24 W ok x [.int .i64 x.f0, .int .i64 x.f1, v] := by
  obtain ⟨A, c, rfl, hl, hF⟩ := h
  exact k24_mkF W ok x hl hF
/-- A row of two elements. -/
theorem F_two {W : World} {ok : Nat → Prop} {g : Nat} {a b : S24} {a0 a1 a2 b0 b1 b2 : Value} (hg : W.heap[g]? = some (.cells #[a0, a1, a2, b0, b1, b2] 24 (0, 0))) (hok : ok g) (ha : Kd.FK k24 W ok a [a0, a1, a2]) (hb : Kd.FK k24 W ok b [b0, b1, b2]) :
    Kd.F k24 W ok (some ⟨g, 0, none⟩) 2 [a, b] := by
  intro W' hW
  have hg' : W'.heap[g]? = some (.cells #[a0, a1, a2, b0, b1, b2] 24 (0, 0)) := (hW g hok (blk_lt hg)).trans hg
  refine ⟨rfl, by omega, fun _ => ⟨_, rfl, fun j p hj => ?_⟩⟩
  have hc : ∀ i, W'.cell? ((⟨g, 0, none⟩ : Addr).add i) = #[a0, a1, a2, b0, b1, b2][i]? := fun i => by
    rw [add_plain]
    exact blk_cell hg' i
  rcases j with _ | _ | j
  · simp only [List.getElem?_cons_zero, Option.some.injEq] at hj
    subst hj
    refine ⟨_, rfl, ha W' hW, fun i u hu => ?_⟩
    rw [hc, Nat.zero_mul, Nat.zero_add]
    rcases i with _ | _ | _ | i
    all_goals first | (simp at hu; done) | exact hu
  · simp only [List.getElem?_cons_succ, List.getElem?_cons_zero, Option.some.injEq] at hj
    subst hj
    refine ⟨_, rfl, hb W' hW, fun i u hu => ?_⟩
    rw [hc]
    rcases i with _ | _ | _ | i
    all_goals first | (simp at hu; done) | exact hu
  · simp at hj
theorem V_two {W : World} {base : Nat} {ok : Nat → Prop} {g : Nat} {a b : S24} {a0 a1 a2 b0 b1 b2 : Value} (hg : W.heap[g]? = some (.cells #[a0, a1, a2, b0, b1, b2] 24 (0, 0))) (hok : ok g) (ha : Kd.FK k24 W ok a [a0, a1, a2]) (hb : Kd.FK k24 W ok b [b0, b1, b2]) :
    Kd.V k24 24 W base ok (.slice (some ⟨g, 0, none⟩) 2 2) [a, b] := ⟨_, _, rfl, Nat.le_refl _, F_two hg hok ha hb⟩
theorem sl_lo (ad : Addr) (n c : Nat) (hn : 1 ≤ n) (hc : n ≤ c) (hm : n ≤ 9223372036854775807) : ∀ W : World, (Instr.slice 25 (.slice (some ad) n c) (some (.int .i64 1)) none none).run Try.prog W = .ok (.slice (if c = 1 then some ad else (some ad).map (·.add (1 * 1))) (n - 1) (c - 1)) W := by
  intro W
  have hel : Try.prog.elem 25 = 3 := by simp [Program.elem, Try.underlying25]
  have hu : Try.prog.underlying 25 = some (.slice (Try.prog.elem 25)) := by rw [hel]; exact Try.underlying25
  obtain ⟨i0, hi, hzz⟩ := Option.map_eq_some_iff.1 info3
  simp only [Prod.mk.injEq] at hzz
  obtain ⟨_, hz1, _⟩ := hzz
  rw [run_slice_l W 25 (some ad) n c hu .i64 1 (by omega) (by omega), hel]
  by_cases h1 : c = 1
  · simp [sizeOf, typeInfo, hi, hz1, sliced, Result.andThen, h1]
  · simp [sizeOf, typeInfo, hi, hz1, sliced, Result.andThen, h1]
theorem sl_hi (ad : Addr) (n c m : Nat) (hm : m ≤ c) : ∀ W : World, (Instr.slice 25 (.slice (some ad) n c) none (some (.int .i64 m)) none).run Try.prog W = .ok (.slice (some ad) m c) W := by
  intro W
  have hel : Try.prog.elem 25 = 3 := by simp [Program.elem, Try.underlying25]
  have hu : Try.prog.underlying 25 = some (.slice (Try.prog.elem 25)) := by rw [hel]; exact Try.underlying25
  obtain ⟨i0, hi, hzz⟩ := Option.map_eq_some_iff.1 info3
  simp only [Prod.mk.injEq] at hzz
  obtain ⟨_, hz1, _⟩ := hzz
  rw [run_slice_h W 25 (some ad) n c hu .i64 m (by omega) (by omega), hel]
  have e0 : ad.add 0 = ad := by simp [Addr.add]
  simp [sizeOf, typeInfo, hi, hz1, sliced, Result.andThen, e0]
theorem cells3 {w : World} {g : Nat} {t : TypeId} {x y z : Value} (h : w.heap[g]? = some (.cells #[x, y, z] t (0, 0))) : (w.cell? ⟨g, 0, none⟩ = some x ∧ w.cell? ⟨g, 1, none⟩ = some y ∧ w.cell? ⟨g, 2, none⟩ = some z) ∧ (w.frozen? ⟨g, 0, none⟩ = false ∧ w.frozen? ⟨g, 1, none⟩ = false ∧ w.frozen? ⟨g, 2, none⟩ = false) :=
  ⟨⟨blk_cell h 0, blk_cell h 1, blk_cell h 2⟩, blk_frozen h 0, blk_frozen h 1, blk_frozen h 2⟩
end Go.Proofs.Ytmmmmedcgmcoaaa.P
