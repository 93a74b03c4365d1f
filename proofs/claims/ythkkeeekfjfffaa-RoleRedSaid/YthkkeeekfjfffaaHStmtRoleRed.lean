/- The statement of RoleRed over plain data: written by a program of the session. -/
import Derived.Test.YthkkeeekfjfffaaHTypes
import Derived.Test.YthkkeeekfjfffaaPx9
namespace Go.Proofs.Ythkkeeekfjfffaa.P
open Go.RowKit Go.Proofs.YthkkeeekfjfffaaW.PrintWords Go.Proofs.YthkkeeekfjfffaaW.PrintLast
set_option linter.unusedVariables false
set_option linter.unusedSimpArgs false
def pelicanlaw07_RoleRed.PureS : Prop := ∀ (x0 : Int), (fun n => (Lit.int .i64 n).wf = true) x0 → ∃ k, pelicanlaw07_RoleRed.f k x0 = some true
end Go.Proofs.Ythkkeeekfjfffaa.P
