/- The statement of KnowLacks over plain data: written by a program of the session. -/
import Derived.Test.YtfonjmggalkbjaaHTypes
import Derived.Test.YtfonjmggalkbjaaHLLacks
namespace Go.Proofs.Ytfonjmggalkbjaa.P
open Go.RowKit Go.Proofs.YtfonjmggalkbjaaW.PrintWords Go.Proofs.YtfonjmggalkbjaaW.PrintLast
set_option linter.unusedVariables false
set_option linter.unusedSimpArgs false
def pelicanlaw06_KnowLacks.PureS : Prop := ∀ (x0 : List (S24)) (x1 : S24), (fun l => l.length ≤ maxLen ∧ ∀ x ∈ l, G24 x) x0 → G24 x1 → pelicanlaw06_KnowLacks.f x0 x1.f0 x1.f1 x1.f2 = some true
end Go.Proofs.Ytfonjmggalkbjaa.P
