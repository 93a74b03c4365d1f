/- By hand: the law StoreTells. -/
import Derived.Test.YtlldfihhdbbicaaHTellsM
import Derived.Test.YtlldfihhdbbicaaHPureStore
import Derived.Test.YtlldfihhdbbicaaHPureWrite
namespace Go.Proofs.Ytlldfihhdbbicaa.P
open Go.RowKit Go.Lib Go.Proofs.YtlldfihhdbbicaaW.PrintWords Go.Proofs.YtlldfihhdbbicaaW.PrintLast Go.Proofs.YtlldfihhdbbicaaW.PrintMore
set_option linter.unusedVariables false
set_option linter.unusedSimpArgs false
theorem same_two (a n a2 n2 : Int) (l l2 : List Int) : pelicanref09_Same.f a l n a2 l2 n2 = store_Same.f a l n a2 l2 n2 := by
  unfold pelicanref09_Same.f store_Same.f bytes_Equal.f
  rfl
theorem same_any (a n a2 n2 : Int) (l l2 : List Int) : ∃ b, store_Same.f a l n a2 l2 n2 = some b := by
  unfold store_Same.f bytes_Equal.f
  split
  · split
    · exact ⟨_, rfl⟩
    · exact ⟨_, rfl⟩
  · exact ⟨_, rfl⟩
theorem left_two (a n : Int) (l : List Int) : pelicanref09_Left.f a l n = store_Left.f a l n := by
  unfold pelicanref09_Left.f store_Left.f
  rw [may_same]
theorem new_two (room : Int) : ∃ r1 r2 r3 r4, store_New.f room = some (r1, r2, r3, r4) ∧ pelicanref09_New.f room = some (r1, r2, r3, r4) := by
  unfold store_New.f pelicanref09_New.f
  rw [may_f, Option.bind_some]
  by_cases h : mayP room [] 0
  · obtain ⟨h1, h2, h3, h4, h5⟩ := id h
    rw [decide_eq_true h, if_pos rfl, if_neg (by omega), if_neg (by omega)]
    exact ⟨_, _, _, _, rfl, rfl⟩
  · rw [decide_eq_false h, if_neg (by decide)]
    refine ⟨0, [], 0, false, rfl, ?_⟩
    by_cases h1 : room < 0
    · rw [if_pos h1]
    · rw [if_neg h1]
      by_cases h2 : room > 16384
      · rw [if_pos h2]
      · refine absurd ?_ h
        refine ⟨by omega, by omega, ?_, by omega, ?_⟩
        · show ((0 : Nat) : Int) ≤ room
          omega
        · show (0 : Int) ≤ ((0 : Nat) : Int)
          omega
def pelicanlaw09_StoreTells.f (a0_0 : Int) (l0_1 : List Int) (a0_2 : Int) (a1_0 : Int) (l1_1 : List Int) (a1_2 : Int) (l2 : List Int) (a3 : Int) (a4 : Int) : Option (Bool) := some true
theorem pelicanlaw09_StoreTells.calls (a0_0 : Int) (A0_1 : Option Addr) (c0_1 : Nat) (l0_1 : List Int) (a0_2 : Int) (a1_0 : Int) (A1_1 : Option Addr) (c1_1 : Nat) (l1_1 : List Int) (a1_2 : Int) (A2 : Option Addr) (c2 : Nat) (l2 : List Int) (a3 : Int) (a4 : Int) (r : Bool) (w : World) (hr0_1 : Kd.C (Kd.int .u8) w A0_1 l0_1.length l0_1) (hc0_1 : l0_1.length ≤ c0_1) (hr1_1 : Kd.C (Kd.int .u8) w A1_1 l1_1.length l1_1) (hc1_1 : l1_1.length ≤ c1_1) (hr2 : Kd.C (Kd.int .u8) w A2 l2.length l2) (hc2 : l2.length ≤ c2) (h : pelicanlaw09_StoreTells.f a0_0 l0_1 a0_2 a1_0 l1_1 a1_2 l2 a3 a4 = some r) (hr_0 : r = true) :
    Calls Try.prog 8 #[.agg #[.int .i64 a0_0, .slice A0_1 l0_1.length c0_1, .int .i64 a0_2], .agg #[.int .i64 a1_0, .slice A1_1 l1_1.length c1_1, .int .i64 a1_2], .slice A2 l2.length c2, .int .i64 a3, .int .i64 a4] w fun e w' => e = .returned (.bool r) ∧ Below w.heap.size w w' := by
  subst hr_0
  by_cases d1 : (l0_1.length : Int) ≤ 5000
  · by_cases d2 : (l1_1.length : Int) ≤ 5000
    · by_cases d3 : (l2.length : Int) ≤ 5000
      · obtain ⟨⟨p1, p2, p3, p4⟩, hp⟩ : ∃ p, store_Write.f a0_0 l0_1 a0_2 l2 = some p := ⟨_, write_f a0_0 l0_1 a0_2 l2 (by omega) (by omega)⟩
        obtain ⟨⟨q1, q2, q3, q4⟩, hq⟩ : ∃ p, store_Sync.f a0_0 l0_1 a0_2 = some p := ⟨_, sync_f a0_0 l0_1 a0_2 (by omega)⟩
        obtain ⟨⟨s1, s2, s3, s4⟩, hs⟩ : ∃ p, store_Cut.f a0_0 l0_1 a0_2 a3 = some p := ⟨_, cut_f a0_0 l0_1 a0_2 a3 (by omega)⟩
        obtain ⟨t1, t2, t3, t4, ht, ht2⟩ := new_two a4
        obtain ⟨⟨y1, y2, y3⟩, hy⟩ : ∃ p, store_Crash.f a0_0 l0_1 a0_2 a3 = some p := by
          by_cases hm : mayP a0_0 l0_1 a0_2
          · exact ⟨_, crash_f a0_0 l0_1 a0_2 a3 hm⟩
          · exact ⟨_, crash_no a0_0 l0_1 a0_2 a3 hm (by omega)⟩
        obtain ⟨m, hm⟩ := may_some a0_0 a0_2 l0_1
        obtain ⟨b, hb⟩ := same_any a0_0 a0_2 a1_0 a1_2 l0_1 l1_1
        have hl := left_f a0_0 l0_1 a0_2
        exact st_main a0_0 a0_2 a1_0 a1_2 a3 a4 A0_1 A1_1 A2 c0_1 c1_1 c2 l0_1 l1_1 l2 w hr0_1 hc0_1 hr1_1 hc1_1 hr2 hc2 d1 d2 d3 p1 p3 p4 q1 q3 q4 s1 s3 s4 t1 t3 y1 y3 _ p2 q2 s2 t2 y2 t4 m b hp hq hs ht ht2 hy hm ((same_two _ _ _ _ _ _).trans hb) hb hl ((left_two _ _ _).trans hl) (fun r1 r2 r3 => (same_two _ _ _ _ _ _).trans (same_refl r1 r2 r3))
      · exact st_o3 a0_0 a0_2 a1_0 a1_2 a3 a4 A0_1 A1_1 A2 c0_1 c1_1 c2 l0_1 l1_1 l2 w hr0_1 hc0_1 hr1_1 hc1_1 hr2 hc2 d1 d2 (by omega)
    · exact st_o2 a0_0 a0_2 a1_0 a1_2 a3 a4 A0_1 A1_1 A2 c0_1 c1_1 c2 l0_1 l1_1 l2 w hr0_1 hc0_1 hr1_1 hc1_1 hr2 hc2 d1 (by omega)
  · exact st_o1 a0_0 a0_2 a1_0 a1_2 a3 a4 A0_1 A1_1 A2 c0_1 c1_1 c2 l0_1 l1_1 l2 w hr0_1 hc0_1 hr1_1 hc1_1 hr2 hc2 (by omega)
end Go.Proofs.Ytlldfihhdbbicaa.P
