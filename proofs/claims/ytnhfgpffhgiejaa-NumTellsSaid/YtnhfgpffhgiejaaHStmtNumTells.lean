/- The statement of NumTells over plain data: written by a program of the session. -/
import Derived.Test.YtnhfgpffhgiejaaHTypes
import Derived.Test.YtnhfgpffhgiejaaPx4
namespace Go.Proofs.Ytnhfgpffhgiejaa.P
open Go.RowKit Go.Proofs.YtnhfgpffhgiejaaW.PrintWords Go.Proofs.YtnhfgpffhgiejaaW.PrintLast
set_option linter.unusedVariables false
set_option linter.unusedSimpArgs false
def pelicanlaw03_NumTells.PureS : Prop := ∀ (x0 : Int) (x1 : Int) (x2 : List Int) (x3 : Int) (x4 : List (S41)) (x5 : List Int), (fun n => (Lit.int .u64 n).wf = true) x0 → (fun n => (Lit.int .i64 n).wf = true) x1 → (fun l => l.length ≤ maxLen ∧ ∀ x ∈ l, (fun n => (Lit.int .u8 n).wf = true) x) x2 → (fun n => (Lit.int .i64 n).wf = true) x3 → (fun l => l.length ≤ maxLen ∧ ∀ x ∈ l, G41 x) x4 → (fun l => l.length ≤ maxLen ∧ ∀ x ∈ l, (fun n => (Lit.int .i64 n).wf = true) x) x5 → ∃ k, pelicanlaw03_NumTells.f k x0 x1 x2 x3 x4 x5 = some true
end Go.Proofs.Ytnhfgpffhgiejaa.P
