/- The statement of EntryBack over plain data: written by a program of the session. -/
import Derived.Test.YtphfejboahcnhaaHTypes
import Derived.Test.YtphfejboahcnhaaPx10
namespace Go.Proofs.Ytphfejboahcnhaa.P
open Go.RowKit Go.Proofs.YtphfejboahcnhaaW.PrintWords Go.Proofs.YtphfejboahcnhaaW.PrintLast
set_option linter.unusedVariables false
set_option linter.unusedSimpArgs false
def pelicanlaw10_EntryBack.PureS : Prop := ∀ (x0 : S25) (x1 : S25) (x2 : List Int), G25 x0 → G25 x1 → (fun l => l.length ≤ maxLen ∧ ∀ x ∈ l, (fun n => (Lit.int .u8 n).wf = true) x) x2 → ∃ k, pelicanlaw10_EntryBack.f k x0.f0 x0.f1 x0.f2 x0.f3 x0.f4 x0.f5 x0.f6 x0.f7 x0.f8 x1.f0 x1.f1 x1.f2 x1.f3 x1.f4 x1.f5 x1.f6 x1.f7 x1.f8 x2 = some true
end Go.Proofs.Ytphfejboahcnhaa.P
