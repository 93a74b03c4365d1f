/- The statement of NumCat over plain data: written by a program of the session. -/
import Derived.Test.YtnhfgpffhgiejaaHTypes
import Derived.Test.YtnhfgpffhgiejaaPx5
namespace Go.Proofs.Ytnhfgpffhgiejaa.P
open Go.RowKit Go.Proofs.YtnhfgpffhgiejaaW.PrintWords Go.Proofs.YtnhfgpffhgiejaaW.PrintLast
set_option linter.unusedVariables false
set_option linter.unusedSimpArgs false
def pelicanlaw03_NumCat.PureS : Prop := ∀ (x0 : List (S41)) (x1 : List (S41)), (fun l => l.length ≤ maxLen ∧ ∀ x ∈ l, G41 x) x0 → (fun l => l.length ≤ maxLen ∧ ∀ x ∈ l, G41 x) x1 → ∃ k, pelicanlaw03_NumCat.f k x0 x1 = some true
end Go.Proofs.Ytnhfgpffhgiejaa.P
