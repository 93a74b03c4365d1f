/- The statement of RoleLists over plain data: written by a program of the session. -/
import Derived.Test.YthkkeeekfjfffaaHTypes
import Derived.Test.YthkkeeekfjfffaaPx8
namespace Go.Proofs.Ythkkeeekfjfffaa.P
open Go.RowKit Go.Proofs.YthkkeeekfjfffaaW.PrintWords Go.Proofs.YthkkeeekfjfffaaW.PrintLast
set_option linter.unusedVariables false
set_option linter.unusedSimpArgs false
def pelicanlaw07_RoleLists.PureS : Prop := ∀ (x0 : Int) (x1 : Int) (x2 : Int), (fun n => (Lit.int .i64 n).wf = true) x0 → (fun n => (Lit.int .i64 n).wf = true) x1 → (fun n => (Lit.int .i64 n).wf = true) x2 → ∃ k, pelicanlaw07_RoleLists.f k x0 x1 x2 = some true
end Go.Proofs.Ythkkeeekfjfffaa.P
