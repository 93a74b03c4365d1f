/- Plain facts about lists of entries, and the chapter's example. -/
import Derived.Test.YtphfejboahcnhaaPx4
import Derived.Test.YtphfejboahcnhaaPx5
import Derived.Test.YtphfejboahcnhaaHEntP
namespace Go.Proofs.Ytphfejboahcnhaa.P
open Go.RowKit Go.Proofs.YtphfejboahcnhaaW.PrintWords Go.Proofs.YtphfejboahcnhaaW.PrintLast
set_option linter.unusedVariables false
set_option linter.unusedSimpArgs false
abbrev SE := S25
def eqE (x y : SE) : Bool := x.f0 == y.f0 && (x.f1 == y.f1 && (x.f2 == y.f2 && (x.f3 == y.f3 && (x.f4 == y.f4 && (x.f5 == y.f5 && (x.f6 == y.f6 && (x.f7 == y.f7 && x.f8 == y.f8)))))))
theorem eqE_iff (x y : SE) : eqE x y = true ↔ x = y := by
  cases x; cases y
  simp [eqE]
theorem neE (x y : SE) : (!(x.f0 == y.f0) || (!(x.f1 == y.f1) || (!(x.f2 == y.f2) || (!(x.f3 == y.f3) || (!(x.f4 == y.f4) || (!(x.f5 == y.f5) || (!(x.f6 == y.f6) || (!(x.f7 == y.f7) || (!(x.f8 == y.f8)))))))))) = !eqE x y := by
  simp only [eqE, Bool.not_and]
def sameL : List SE → List SE → Bool
  | [], [] => true
  | x :: a, y :: b => eqE x y && sameL a b
  | _, _ => false
theorem sameL_iff : ∀ a b, sameL a b = true ↔ a = b
  | [], [] => by simp [sameL]
  | [], _ :: _ => by simp [sameL]
  | _ :: _, [] => by simp [sameL]
  | x :: a, y :: b => by simp only [sameL, Bool.and_eq_true, eqE_iff, sameL_iff a b, List.cons.injEq]
theorem sameL_len : ∀ {a b}, a.length ≠ b.length → sameL a b = false := by
  intro a b h
  cases hs : sameL a b
  · rfl
  · exact absurd (congrArg List.length ((sameL_iff a b).1 hs)) h
theorem rdE (l : List SE) {i : Nat} (h : i < l.length) : rd_T25 l (i : Int) = l[i] := by
  unfold rd_T25
  rw [Int.toNat_natCast, List.getD_eq_getElem?_getD, List.getElem?_eq_getElem h]
  rfl
theorem drop_E (l : List SE) {i : Nat} (h : i < l.length) : l.drop i = rd_T25 l (i : Int) :: l.drop (i + 1) := by
  rw [rdE l h, List.drop_eq_getElem_cons h]
theorem same_loop (a b : List SE) (hl : a.length = b.length) (hm : a.length ≤ 140737488355328) : ∀ (d i : Nat), i + d = a.length → Ev (fun k => api_Entry_30.l0 k a b (a.length : Int) (i : Int)) (sameL (a.drop i) (b.drop i)) := by
  intro d
  induction d with
  | zero =>
    intro i hi
    refine Ev.step (f := fun _ => some true) (fun k => ?_) (Ev.const ?_)
    · simp only [api_Entry_30.l0]
      rw [if_neg (by omega)]
    · rw [List.drop_of_length_le (by omega), List.drop_of_length_le (by omega)]; rfl
  | succ d ih =>
    intro i hi
    have hi1 : i < a.length := by omega
    have hi2 : i < b.length := by omega
    rw [drop_E a hi1, drop_E b hi2]
    have ih' := ih (i + 1) (by omega)
    by_cases he : eqE (rd_T25 a i) (rd_T25 b i) = true
    · refine Ev.step (f := fun k => api_Entry_30.l0 k a b (a.length : Int) ((i + 1 : Nat) : Int)) (fun k => ?_) ?_
      · simp only [api_Entry_30.l0]
        rw [if_pos (by omega), if_pos (by omega), if_pos (by omega), if_pos (by omega), neE, he, if_neg (by decide), w64 (by omega) (by omega)]
        rfl
      · simpa [sameL, he] using ih'
    · have he' := Bool.eq_false_iff.mpr he
      refine Ev.step (f := fun _ => some false) (fun k => ?_) (Ev.const ?_)
      · simp only [api_Entry_30.l0]
        rw [if_pos (by omega), if_pos (by omega), if_pos (by omega), if_pos (by omega), neE, he', if_pos (by decide)]
      · simp [sameL, he']
theorem same_ev (a b : List SE) (hm : a.length ≤ 140737488355328) : Ev (fun k => entry_Same.f k a b) (sameL a b) := by
  unfold entry_Same.f
  refine Ev.bind ?_ (Ev.const rfl)
  by_cases hl : a.length = b.length
  · have := same_loop a b hl hm a.length 0 (by omega)
    refine Ev.congr (fun k => ?_) this
    unfold api_Entry_30.f
    rw [if_pos (by omega)]
    rfl
  · rw [sameL_len hl]
    refine Ev.congr (f := fun _ => some false) (fun k => ?_) (Ev.const rfl)
    unfold api_Entry_30.f
    rw [if_neg (by omega)]
theorem epoch_f (l : List SE) : entry_Epoch.f l = some (lastE (l.filter (isK 0))) := rfl
theorem of_f (l : List SE) (kd : Int) (hm : l.length < 1954687338268) : entry_Of.f l kd = some (l.filter (isK kd)) := by
  unfold entry_Of.f
  rw [if_pos hm]
def x3 : SE := ⟨0, 0, 3, 0, 0, 0, 0, 0, 0⟩
theorem awake_ev : Ev (fun k => pelicanlaw10_awake.f k) true := by
  unfold pelicanlaw10_awake.f
  have hm : mayE x3 = true := by decide
  have hu : uE x3 := ⟨⟨by decide, by decide⟩, by decide, by decide⟩
  have hp := put_ev hu
  rw [if_pos hm] at hp
  refine Ev.bind hp ?_
  have hg := get_ev (bytesE x3) (bytes_byte x3) (by rw [bytes_len]; omega)
  rw [get_put hm hu] at hg
  refine Ev.bind hg ?_
  dsimp only [tupE, x3]
  have hl := bytes_len x3
  have h8 : rd (bytesE x3) 8 = 3 := by decide
  simp only [x3] at hl h8
  refine Ev.yes rfl (Ev.yes (by omega) (Ev.yes (by omega) (Ev.yes h8 (Ev.yes rfl (Ev.yes rfl ?_)))))
  have hmay := may_f x3
  dsimp only [x3] at hmay
  simp only [hmay, Option.bind_some]
  dsimp only [x3] at hm
  refine Ev.yes hm ?_
  simp only [epoch_f, Option.bind_some]
  refine Ev.yes (by decide) ?_
  have hs := same_ev [] [] (by simp)
  refine Ev.bind hs (Ev.const ?_)
  rw [if_pos (by decide), of_f _ _ (by simp), Option.bind_some]
  decide
end Go.Proofs.Ytphfejboahcnhaa.P
