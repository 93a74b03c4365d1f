/- The statement of EntrySame over plain data: written by a program of the session. -/
import Derived.Test.YtphfejboahcnhaaHTypes
import Derived.Test.YtphfejboahcnhaaPx13
namespace Go.Proofs.Ytphfejboahcnhaa.P
open Go.RowKit Go.Proofs.YtphfejboahcnhaaW.PrintWords Go.Proofs.YtphfejboahcnhaaW.PrintLast
set_option linter.unusedVariables false
set_option linter.unusedSimpArgs false
def pelicanlaw10_EntrySame.PureS : Prop := ∀ (x0 : List (S25)) (x1 : S25) (x2 : Int), (fun l => l.length ≤ maxLen ∧ ∀ x ∈ l, G25 x) x0 → G25 x1 → (fun n => (Lit.int .i64 n).wf = true) x2 → ∃ k, pelicanlaw10_EntrySame.f k x0 x1.f0 x1.f1 x1.f2 x1.f3 x1.f4 x1.f5 x1.f6 x1.f7 x1.f8 x2 = some true
end Go.Proofs.Ytphfejboahcnhaa.P
