/- The statement of StoreCrash over plain data: written by a program of the session. -/
import Derived.Test.YtlldfihhdbbicaaHTypes
import Derived.Test.YtlldfihhdbbicaaPx5
namespace Go.Proofs.Ytlldfihhdbbicaa.P
open Go.RowKit Go.Proofs.YtlldfihhdbbicaaW.PrintWords Go.Proofs.YtlldfihhdbbicaaW.PrintLast
set_option linter.unusedVariables false
set_option linter.unusedSimpArgs false
def pelicanlaw09_StoreCrash.PureS : Prop := ∀ (x0 : S24) (x1 : Int) (x2 : Int), G24 x0 → (fun n => (Lit.int .i64 n).wf = true) x1 → (fun n => (Lit.int .i64 n).wf = true) x2 → ∃ k, pelicanlaw09_StoreCrash.f k x0.f0 x0.f1 x0.f2 x1 x2 = some true
end Go.Proofs.Ytlldfihhdbbicaa.P
