/- Scopes with a label: a loop by goto, and a goto forwards. -/
import Derived.Scope
import Derived.WalkMore
import Derived.ScopeJumps
namespace Go.Proofs.Ytphfejboahcnhaa.P
section
variable {P : Program} {a : Act} {w : World} {Q : Exit → Act → World → Prop}
theorem jump_mono {l : Nat} {J J' : Act → World → Prop} (h : ∀ a w, J a w → J' a w) : ∀ e a w, Exit.jump l J Q e a w → Exit.jump l J' Q e a w
  | .normal, _, _, h' => h'
  | .exit _, _, _, h' => h'
  | .goto _, _, _, h' => ⟨h'.1, h _ _ h'.2⟩
  | .ret, _, _, h' => h'
  | .panic _, _, _, h' => h'
  | .outgrown, _, _, h' => h'
/-- What stands behind the label is walked once. -/
theorem wp_scope_loop {c rest : Code} (l : Nat) (J : Act → World → Prop) (μ : Act → World → Nat) (hf : findLabel c l = some (Code.skip.seq rest))
    (pass : ∀ a w, J a w → rest.wp P (Exit.jump l (fun a' w' => J a' w' ∧ μ a' w' < μ a w) Q) a w)
    (first : (∀ a w, J a w → rest.wp P (Exit.jump l J Q) a w) → c.wp P (Exit.jump l J Q) a w) : (Code.scope c).wp P Q a w :=
  wp_scope_jumps l J μ hf (first fun a w hJ => wp_mono (pass a w hJ) (jump_mono fun _ _ h => h.1)) fun a w hJ => wp_seq (wp_skip (pass a w hJ))
end
end Go.Proofs.Ytphfejboahcnhaa.P
