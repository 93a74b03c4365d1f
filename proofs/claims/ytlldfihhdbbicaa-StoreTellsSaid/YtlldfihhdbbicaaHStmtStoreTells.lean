/- The statement of StoreTells over plain data: written by a program of the session. -/
import Derived.Test.YtlldfihhdbbicaaHTypes
import Derived.Test.YtlldfihhdbbicaaHTells
namespace Go.Proofs.Ytlldfihhdbbicaa.P
open Go.RowKit Go.Proofs.YtlldfihhdbbicaaW.PrintWords Go.Proofs.YtlldfihhdbbicaaW.PrintLast
set_option linter.unusedVariables false
set_option linter.unusedSimpArgs false
def pelicanlaw09_StoreTells.PureS : Prop := ∀ (x0 : S24) (x1 : S24) (x2 : List Int) (x3 : Int) (x4 : Int), G24 x0 → G24 x1 → (fun l => l.length ≤ maxLen ∧ ∀ x ∈ l, (fun n => (Lit.int .u8 n).wf = true) x) x2 → (fun n => (Lit.int .i64 n).wf = true) x3 → (fun n => (Lit.int .i64 n).wf = true) x4 → pelicanlaw09_StoreTells.f x0.f0 x0.f1 x0.f2 x1.f0 x1.f1 x1.f2 x2 x3 x4 = some true
end Go.Proofs.Ytlldfihhdbbicaa.P
