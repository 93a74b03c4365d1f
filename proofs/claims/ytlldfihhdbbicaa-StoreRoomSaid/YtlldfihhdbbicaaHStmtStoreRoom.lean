/- The statement of StoreRoom over plain data: written by a program of the session. -/
import Derived.Test.YtlldfihhdbbicaaHTypes
import Derived.Test.YtlldfihhdbbicaaPx7
namespace Go.Proofs.Ytlldfihhdbbicaa.P
open Go.RowKit Go.Proofs.YtlldfihhdbbicaaW.PrintWords Go.Proofs.YtlldfihhdbbicaaW.PrintLast
set_option linter.unusedVariables false
set_option linter.unusedSimpArgs false
def pelicanlaw09_StoreRoom.PureS : Prop := ∀ (x0 : S24) (x1 : List Int) (x2 : Int), G24 x0 → (fun l => l.length ≤ maxLen ∧ ∀ x ∈ l, (fun n => (Lit.int .u8 n).wf = true) x) x1 → (fun n => (Lit.int .i64 n).wf = true) x2 → ∃ k, pelicanlaw09_StoreRoom.f k x0.f0 x0.f1 x0.f2 x1 x2 = some true
end Go.Proofs.Ytlldfihhdbbicaa.P
