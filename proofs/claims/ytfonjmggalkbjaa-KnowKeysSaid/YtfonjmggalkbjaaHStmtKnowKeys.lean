/- The statement of KnowKeys over plain data: written by a program of the session. -/
import Derived.Test.YtfonjmggalkbjaaHTypes
import Derived.Test.YtfonjmggalkbjaaPx11
namespace Go.Proofs.Ytfonjmggalkbjaa.P
open Go.RowKit Go.Proofs.YtfonjmggalkbjaaW.PrintWords Go.Proofs.YtfonjmggalkbjaaW.PrintLast
set_option linter.unusedVariables false
set_option linter.unusedSimpArgs false
def pelicanlaw06_KnowKeys.PureS : Prop := ∀ (x0 : List (S24)) (x1 : Int), (fun l => l.length ≤ maxLen ∧ ∀ x ∈ l, G24 x) x0 → (fun n => (Lit.int .i64 n).wf = true) x1 → ∃ k, pelicanlaw06_KnowKeys.f k x0 x1 = some true
end Go.Proofs.Ytfonjmggalkbjaa.P
