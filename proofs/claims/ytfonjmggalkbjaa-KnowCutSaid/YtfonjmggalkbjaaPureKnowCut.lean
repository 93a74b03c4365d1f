/- KnowCut, in plain data. -/
import Derived.Test.YtfonjmggalkbjaaHStmtKnowCut
namespace Go.Proofs.Ytfonjmggalkbjaa.Pure
open Go.RowKit Go.Proofs.Ytfonjmggalkbjaa.P Go.Proofs.YtfonjmggalkbjaaW.PrintWords Go.Proofs.YtfonjmggalkbjaaW.PrintLast
theorem KnowCut : pelicanlaw06_KnowCut.PureS := by
  unfold pelicanlaw06_KnowCut.PureS
  intros
  rfl
end Go.Proofs.Ytfonjmggalkbjaa.Pure
