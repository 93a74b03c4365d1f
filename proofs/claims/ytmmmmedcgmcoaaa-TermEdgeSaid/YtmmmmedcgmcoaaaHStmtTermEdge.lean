/- The statement of TermEdge over plain data: written by a program of the session. -/
import Derived.Test.YtmmmmedcgmcoaaaHTypes
import Derived.Test.YtmmmmedcgmcoaaaHEdge
namespace Go.Proofs.Ytmmmmedcgmcoaaa.P
open Go.RowKit Go.Proofs.YtmmmmedcgmcoaaaW.PrintWords Go.Proofs.YtmmmmedcgmcoaaaW.PrintLast
set_option linter.unusedVariables false
set_option linter.unusedSimpArgs false
def pelicanlaw05_TermEdge.PureS : Prop := ∀ (x0 : S24) (x1 : Int) (x2 : Int) (x3 : Int), G24 x0 → (fun n => (Lit.int .i64 n).wf = true) x1 → (fun n => (Lit.int .i64 n).wf = true) x2 → (fun n => (Lit.int .i64 n).wf = true) x3 → pelicanlaw05_TermEdge.f x0.f0 x0.f1 x0.f2 x1 x2 x3 = some true
end Go.Proofs.Ytmmmmedcgmcoaaa.P
