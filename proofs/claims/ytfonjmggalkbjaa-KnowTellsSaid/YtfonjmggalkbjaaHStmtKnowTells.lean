/- The statement of KnowTells over plain data: written by a program of the session. -/
import Derived.Test.YtfonjmggalkbjaaHTypes
import Derived.Test.YtfonjmggalkbjaaPx11
namespace Go.Proofs.Ytfonjmggalkbjaa.P
open Go.RowKit Go.Proofs.YtfonjmggalkbjaaW.PrintWords Go.Proofs.YtfonjmggalkbjaaW.PrintLast
set_option linter.unusedVariables false
set_option linter.unusedSimpArgs false
def pelicanlaw06_KnowTells.PureS : Prop := ∀ (x0 : List (S24)) (x1 : List (S24)) (x2 : S24), (fun l => l.length ≤ maxLen ∧ ∀ x ∈ l, G24 x) x0 → (fun l => l.length ≤ maxLen ∧ ∀ x ∈ l, G24 x) x1 → G24 x2 → ∃ k, pelicanlaw06_KnowTells.f k x0 x1 x2.f0 x2.f1 x2.f2 = some true
end Go.Proofs.Ytfonjmggalkbjaa.P
