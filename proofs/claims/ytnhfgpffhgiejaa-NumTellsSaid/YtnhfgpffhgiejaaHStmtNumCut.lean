/- The statement of NumCut over plain data: written by a program of the session. -/
import Derived.Test.YtnhfgpffhgiejaaHTypes
import Derived.Test.YtnhfgpffhgiejaaPx6
namespace Go.Proofs.Ytnhfgpffhgiejaa.P
open Go.RowKit Go.Proofs.YtnhfgpffhgiejaaW.PrintWords Go.Proofs.YtnhfgpffhgiejaaW.PrintLast
set_option linter.unusedVariables false
set_option linter.unusedSimpArgs false
def pelicanlaw03_NumCut.PureS : Prop := ∀ (x0 : List Int) (x1 : List Int) (x2 : Int), (fun l => l.length ≤ maxLen ∧ ∀ x ∈ l, (fun n => (Lit.int .u8 n).wf = true) x) x0 → (fun l => l.length ≤ maxLen ∧ ∀ x ∈ l, (fun n => (Lit.int .i64 n).wf = true) x) x1 → (fun n => (Lit.int .u8 n).wf = true) x2 → ∃ k, pelicanlaw03_NumCut.f k x0 x1 x2 = some true
end Go.Proofs.Ytnhfgpffhgiejaa.P
