/- What is deleted: clear, slices.Delete, pelicanref18.without, sess.Drop, pelicanref18.Drop. -/
import Derived.Test.YtmhphkclgdaajaaHSMay
namespace Go.Proofs.Ytmhphkclgdaajaa.P
open Go.RowKit Go.Lib Go.Proofs.YtmhphkclgdaajaaW.PrintWords Go.Proofs.YtmhphkclgdaajaaW.PrintLast Go.Proofs.YtmhphkclgdaajaaW.PrintMore
set_option linter.unusedVariables false
set_option linter.unusedSimpArgs false
theorem zero_one (n : Nat) : ∀ u ∈ (Builtin.zeroCells (sca zses) n).toList, u.oneCell' = true := by
  intro u hu
  simp only [Builtin.zeroCells, Array.toList_map, List.mem_map, Array.toList_range, List.mem_range] at hu
  obtain ⟨i, _, rfl⟩ := hu
  have hs : (sca zses).size = 39 := sca_size _
  have hlt : i % (sca zses).size < (sca zses).size := Nat.mod_lt _ (by rw [hs]; decide)
  rw [getElem!_pos (sca zses) _ hlt]
  have hm : (sca zses)[i % (sca zses).size] ∈ (sca zses) := Array.getElem_mem hlt
  exact scl_one zses _ (Array.mem_def.1 hm)
/-- Behind a row of the call's own m elements are cleared. -/
theorem clear_run {W w0 : World} {base g n c k m c2 : Nat} {ty : TypeId} {xs : List Ses} {ok : Nat → Prop} (HO : kS.R 35 W base ok (.slice (some ⟨g, 0, none⟩) n c) xs) (hk : n ≤ k) (hm : k + m ≤ c) (HB : Below base w0 W) :
    ∃ w1, (Builtin.clear_ #[22] ty #[.slice (some ⟨g, k * 39, none⟩) m c2]).run Try.prog W = .ok (.tuple #[]) w1 ∧ kS.R 35 w1 base ok (.slice (some ⟨g, 0, none⟩) n c) xs ∧ Below base w0 w1 := by
  obtain ⟨h0, inner, ⟨hlen, hor⟩, hr⟩ := HO
  rcases hor with ⟨hv, _⟩ | ⟨g', cap, cur, hv, hbase, hheap, hn, hcap, hsize, htake⟩
  · simp at hv
  · injection hv with hv1 hv2 hv3
    injection hv1 with hv1
    injection hv1 with hv1 _ _
    subst hv1 hv2 hv3
    have hi := infoZ
    cases hq : Try.prog.info? 35 with
    | none => rw [hq] at hi; simp at hi
    | some i =>
      rw [hq] at hi
      simp only [Option.map_some, Option.some.injEq, Prod.mk.injEq] at hi
      obtain ⟨hz, hs, _⟩ := hi
      have hzl : (Builtin.zeroCells (sca zses) m).toList.length = m * 39 := by
        rw [Array.length_toList, size_zeroCells, sca_size]
      have hsz : kS.sz = 39 := rfl
      rw [hsz] at hsize htake hlen
      have hfit : k * 39 + m * 39 ≤ cur.size := by rw [hsize, ← Nat.add_mul]; exact Nat.mul_le_mul_right _ hm
      by_cases hm0 : m = 0
      · subst hm0
        refine ⟨W, ?_, ⟨h0, inner, ⟨hlen, .inr ⟨g, c, cur, rfl, hbase, hheap, hn, hcap, hsize, htake⟩⟩, hr⟩, HB⟩
        simp [Builtin.clear_, run_underlying Try.underlying22]
      · have hst := run_storeCells_at Try.prog g (k * 39) 35 (Builtin.zeroCells (sca zses) m).toList 0 cur W hheap (by rw [hzl]; exact hfit) (zero_one m)
        obtain ⟨nc, hnc⟩ : ∃ nc, nc = (cur.toList.take (k * 39 + 0) ++ (Builtin.zeroCells (sca zses) m).toList ++ cur.toList.drop (k * 39 + 0 + (Builtin.zeroCells (sca zses) m).toList.length)).toArray := ⟨_, rfl⟩
        rw [← hnc] at hst
        have hk39 : xs.length * 39 ≤ k * 39 := Nat.mul_le_mul_right _ hk
        have hcl : cur.toList.length = c * 39 := by rw [Array.length_toList, hsize]
        have z1 : nc.size = c * 39 := by
          rw [hnc, List.size_toArray, List.length_append, List.length_append, List.length_take, List.length_drop, hzl, Array.length_toList, hsize]
          rw [hsize] at hfit
          omega
        have z2 : nc.toList.take (xs.length * 39) = inner := by
          rw [hnc, ← htake, List.append_assoc, List.take_append_of_le_length (by rw [List.length_take, hcl]; rw [hsize] at hfit; omega), List.take_take, Nat.min_eq_left (by omega)]
        refine ⟨W.setRow g nc, ?_, ⟨h0, inner, ⟨hlen, .inr ⟨g, c, nc, rfl, hbase, setRow_heap _ _ _ _ _ _ hheap, hn, hcap, z1, z2⟩⟩, hr⟩, ⟨HB.os, HB.tape, HB.output, by rw [size_setRow]; exact HB.size, fun q hq2 => by rw [setRow_other _ _ _ _ (by omega)]; exact HB.block q hq2⟩⟩
        cases m with
        | zero => exact absurd rfl hm0
        | succ m => simp [Builtin.clear_, run_underlying Try.underlying22, zeroValue, typeInfo, hq, hz, Value.cells, hst]
end Go.Proofs.Ytmhphkclgdaajaa.P
