/- The statement of EntryEpoch over plain data: written by a program of the session. -/
import Derived.Test.YtphfejboahcnhaaHTypes
import Derived.Test.YtphfejboahcnhaaPx12
namespace Go.Proofs.Ytphfejboahcnhaa.P
open Go.RowKit Go.Proofs.YtphfejboahcnhaaW.PrintWords Go.Proofs.YtphfejboahcnhaaW.PrintLast
set_option linter.unusedVariables false
set_option linter.unusedSimpArgs false
def pelicanlaw10_EntryEpoch.PureS : Prop := ∀ (x0 : List (S25)) (x1 : S25), (fun l => l.length ≤ maxLen ∧ ∀ x ∈ l, G25 x) x0 → G25 x1 → ∃ k, pelicanlaw10_EntryEpoch.f k x0 x1.f0 x1.f1 x1.f2 x1.f3 x1.f4 x1.f5 x1.f6 x1.f7 x1.f8 = some true
end Go.Proofs.Ytphfejboahcnhaa.P
