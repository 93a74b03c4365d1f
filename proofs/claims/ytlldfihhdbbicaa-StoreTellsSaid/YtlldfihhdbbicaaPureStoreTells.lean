/- StoreTells, in plain data. -/
import Derived.Test.YtlldfihhdbbicaaHStmtStoreTells
namespace Go.Proofs.Ytlldfihhdbbicaa.Pure
open Go.RowKit Go.Proofs.Ytlldfihhdbbicaa.P Go.Proofs.YtlldfihhdbbicaaW.PrintWords Go.Proofs.YtlldfihhdbbicaaW.PrintLast
theorem StoreTells : pelicanlaw09_StoreTells.PureS := by
  unfold pelicanlaw09_StoreTells.PureS
  intros
  rfl
end Go.Proofs.Ytlldfihhdbbicaa.Pure
