/- The statement of KnowMore over plain data: written by a program of the session. -/
import Derived.Test.YtfonjmggalkbjaaHTypes
import Derived.Test.YtfonjmggalkbjaaHMore
namespace Go.Proofs.Ytfonjmggalkbjaa.P
open Go.RowKit Go.Proofs.YtfonjmggalkbjaaW.PrintWords Go.Proofs.YtfonjmggalkbjaaW.PrintLast
set_option linter.unusedVariables false
set_option linter.unusedSimpArgs false
def pelicanlaw06_KnowMore.PureS : Prop := ∀ (x0 : List (S24)) (x1 : S24) (x2 : S24) (x3 : Int), (fun l => l.length ≤ maxLen ∧ ∀ x ∈ l, G24 x) x0 → G24 x1 → G24 x2 → (fun n => (Lit.int .i64 n).wf = true) x3 → pelicanlaw06_KnowMore.f x0 x1.f0 x1.f1 x1.f2 x2.f0 x2.f1 x2.f2 x3 = some true
end Go.Proofs.Ytfonjmggalkbjaa.P
