/- The statement of EntryOf over plain data: written by a program of the session. -/
import Derived.Test.YtphfejboahcnhaaHTypes
import Derived.Test.YtphfejboahcnhaaPx11
namespace Go.Proofs.Ytphfejboahcnhaa.P
open Go.RowKit Go.Proofs.YtphfejboahcnhaaW.PrintWords Go.Proofs.YtphfejboahcnhaaW.PrintLast
set_option linter.unusedVariables false
set_option linter.unusedSimpArgs false
def pelicanlaw10_EntryOf.PureS : Prop := ∀ (x0 : List (S25)) (x1 : Int), (fun l => l.length ≤ maxLen ∧ ∀ x ∈ l, G25 x) x0 → (fun n => (Lit.int .i64 n).wf = true) x1 → ∃ k, pelicanlaw10_EntryOf.f k x0 x1 = some true
end Go.Proofs.Ytphfejboahcnhaa.P
