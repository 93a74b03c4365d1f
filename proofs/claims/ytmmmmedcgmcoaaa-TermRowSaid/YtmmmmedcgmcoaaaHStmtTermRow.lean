/- The statement of TermRow over plain data: written by a program of the session. -/
import Derived.Test.YtmmmmedcgmcoaaaHTypes
import Derived.Test.YtmmmmedcgmcoaaaPx10
namespace Go.Proofs.Ytmmmmedcgmcoaaa.P
open Go.RowKit Go.Proofs.YtmmmmedcgmcoaaaW.PrintWords Go.Proofs.YtmmmmedcgmcoaaaW.PrintLast
set_option linter.unusedVariables false
set_option linter.unusedSimpArgs false
def pelicanlaw05_TermRow.PureS : Prop := ∀ (x0 : List Int) (x1 : List Int) (x2 : S24), (fun l => l.length ≤ maxLen ∧ ∀ x ∈ l, (fun n => (Lit.int .i64 n).wf = true) x) x0 → (fun l => l.length ≤ maxLen ∧ ∀ x ∈ l, (fun n => (Lit.int .i64 n).wf = true) x) x1 → G24 x2 → ∃ k, pelicanlaw05_TermRow.f k x0 x1 x2.f0 x2.f1 x2.f2 = some true
end Go.Proofs.Ytmmmmedcgmcoaaa.P
