/- The statement of TermLeaf over plain data: written by a program of the session. -/
import Derived.Test.YtmmmmedcgmcoaaaHTypes
import Derived.Test.YtmmmmedcgmcoaaaHLeaf
namespace Go.Proofs.Ytmmmmedcgmcoaaa.P
open Go.RowKit Go.Proofs.YtmmmmedcgmcoaaaW.PrintWords Go.Proofs.YtmmmmedcgmcoaaaW.PrintLast
set_option linter.unusedVariables false
set_option linter.unusedSimpArgs false
def pelicanlaw05_TermLeaf.PureS : Prop := ∀ (x0 : Int) (x1 : Int), (fun n => (Lit.int .i64 n).wf = true) x0 → (fun n => (Lit.int .i64 n).wf = true) x1 → pelicanlaw05_TermLeaf.f x0 x1 = some true
end Go.Proofs.Ytmmmmedcgmcoaaa.P
