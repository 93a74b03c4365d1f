/- Numbers as bytes: plain lists and integers, no program. -/
import Derived.Below
namespace Go.Proofs.Ytphfejboahcnhaa.P
set_option linter.unusedVariables false
set_option linter.unusedSimpArgs false

/-- The k bytes of n, the greatest first. -/
def be : Nat → Int → List Int
  | 0, _ => []
  | k + 1, n => be k (n / 256) ++ [n % 256]
/-- The number of bytes. -/
def val (l : List Int) : Int := l.foldl (fun a c => a * 256 + c) 0
/-- Whole numbers that are bytes. -/
def bytesB (l : List Int) : Bool := l.all fun x => decide (0 ≤ x) && decide (x < 256)
theorem bytesB_iff {l : List Int} : bytesB l = true ↔ ∀ x ∈ l, 0 ≤ x ∧ x < 256 := by
  simp [bytesB]

theorem be_length (k : Nat) : ∀ n, (be k n).length = k := by
  induction k with
  | zero => intro n; rfl
  | succ k ih => intro n; simp [be, ih]
theorem be_byte (k : Nat) : ∀ n, ∀ x ∈ be k n, 0 ≤ x ∧ x < 256 := by
  induction k with
  | zero => intro n x hx; simp [be] at hx
  | succ k ih =>
    intro n x hx
    simp only [be, List.mem_append, List.mem_singleton] at hx
    rcases hx with hx | rfl
    · exact ih _ x hx
    · omega
theorem val_nil : val [] = 0 := rfl
theorem val_snoc (l : List Int) (c : Int) : val (l ++ [c]) = val l * 256 + c := by simp [val]
theorem val_be (k : Nat) : ∀ n : Int, val (be k n) + 256 ^ k * (n / 256 ^ k) = n := by
  induction k with
  | zero => intro n; simp [be, val]
  | succ k ih =>
    intro n
    have h := ih (n / 256)
    have e : n / 256 ^ (k + 1) = n / 256 / 256 ^ k := by
      rw [Int.pow_succ, Int.mul_comm, Int.ediv_ediv_of_nonneg (by omega)]
    rw [be, val_snoc, e, Int.pow_succ]
    have e2 : (256 : Int) ^ k * 256 * (n / 256 / 256 ^ k) = 256 * (256 ^ k * (n / 256 / 256 ^ k)) := by
      rw [Int.mul_comm (256 ^ k) 256, Int.mul_assoc]
    rw [e2]
    omega
theorem val_be_fits {k : Nat} {n : Int} (h0 : 0 ≤ n) (h : n < 256 ^ k) : val (be k n) = n := by
  have := val_be k n
  rw [Int.ediv_eq_zero_of_lt h0 h] at this
  omega
/-- A list, seen from its end. -/
theorem snoc_ind {p : List Int → Prop} (h0 : p []) (hs : ∀ l c, p l → p (l ++ [c])) (l : List Int) : p l := by
  have key : ∀ n (l : List Int), l.length = n → p l := by
    intro n
    induction n with
    | zero => intro l hl; rw [List.eq_nil_of_length_eq_zero hl]; exact h0
    | succ n ih =>
      intro l hl
      have hne : l ≠ [] := by intro e; rw [e] at hl; simp at hl
      rw [← List.dropLast_concat_getLast hne]
      exact hs _ _ (ih _ (by simp [hl]))
  exact key _ l rfl
theorem val_bound (l : List Int) : (∀ x ∈ l, 0 ≤ x ∧ x < 256) → 0 ≤ val l ∧ val l < 256 ^ l.length := by
  induction l using snoc_ind with
  | h0 => intro _; simp [val]
  | hs l c ih =>
    intro h
    have h1 := ih (fun x hx => h x (List.mem_append_left _ hx))
    have h2 := h c (by simp)
    rw [val_snoc, List.length_append, List.length_singleton, Int.pow_succ]
    omega
theorem be_val (l : List Int) : (∀ x ∈ l, 0 ≤ x ∧ x < 256) → be l.length (val l) = l := by
  induction l using snoc_ind with
  | h0 => intro _; rfl
  | hs l c ih =>
    intro h
    have h1 := ih (fun x hx => h x (List.mem_append_left _ hx))
    have h2 := h c (by simp)
    rw [val_snoc, List.length_append, List.length_singleton, be]
    have e1 : (val l * 256 + c) / 256 = val l := by omega
    have e2 : (val l * 256 + c) % 256 = c := by omega
    rw [e1, e2, h1]

/-- The rounds of num.Put, from place m downwards. -/
def putL : Nat → Int → List Int → List Int
  | 0, _, xs => xs
  | m + 1, n, xs => putL m (n / 256) (xs.set m (n % 256))
theorem putL_be (m : Nat) : ∀ (n : Int) (xs : List Int), m ≤ xs.length → putL m n xs = be m n ++ xs.drop m := by
  induction m with
  | zero => intro n xs _; simp [putL, be]
  | succ m ih =>
    intro n xs h
    rw [putL, ih _ _ (by simp; omega), be, List.append_assoc]
    congr 1
    rw [List.drop_set, if_neg (by omega), Nat.sub_self, List.drop_eq_getElem_cons (by omega)]
    rfl
/-- Does a number fit a size? -/
def fits (n k : Int) : Prop := 1 ≤ k ∧ k ≤ 8 ∧ n < 256 ^ k.toNat
instance (n k : Int) : Decidable (fits n k) := by unfold fits; infer_instance
end Go.Proofs.Ytphfejboahcnhaa.P
