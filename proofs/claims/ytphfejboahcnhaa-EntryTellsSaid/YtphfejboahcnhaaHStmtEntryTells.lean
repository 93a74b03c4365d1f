/- The statement of EntryTells over plain data: written by a program of the session. -/
import Derived.Test.YtphfejboahcnhaaHTypes
import Derived.Test.YtphfejboahcnhaaPx9
namespace Go.Proofs.Ytphfejboahcnhaa.P
open Go.RowKit Go.Proofs.YtphfejboahcnhaaW.PrintWords Go.Proofs.YtphfejboahcnhaaW.PrintLast
set_option linter.unusedVariables false
set_option linter.unusedSimpArgs false
def pelicanlaw10_EntryTells.PureS : Prop := ∀ (x0 : S25) (x1 : List Int) (x2 : List (S25)) (x3 : List (S25)) (x4 : Int), G25 x0 → (fun l => l.length ≤ maxLen ∧ ∀ x ∈ l, (fun n => (Lit.int .u8 n).wf = true) x) x1 → (fun l => l.length ≤ maxLen ∧ ∀ x ∈ l, G25 x) x2 → (fun l => l.length ≤ maxLen ∧ ∀ x ∈ l, G25 x) x3 → (fun n => (Lit.int .i64 n).wf = true) x4 → ∃ k, pelicanlaw10_EntryTells.f k x0.f0 x0.f1 x0.f2 x0.f3 x0.f4 x0.f5 x0.f6 x0.f7 x0.f8 x1 x2 x3 x4 = some true
end Go.Proofs.Ytphfejboahcnhaa.P
