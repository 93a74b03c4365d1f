/- KnowMore, in plain data. -/
import Derived.Test.YtfonjmggalkbjaaHStmtKnowMore
namespace Go.Proofs.Ytfonjmggalkbjaa.Pure
open Go.RowKit Go.Proofs.Ytfonjmggalkbjaa.P Go.Proofs.YtfonjmggalkbjaaW.PrintWords Go.Proofs.YtfonjmggalkbjaaW.PrintLast
theorem KnowMore : pelicanlaw06_KnowMore.PureS := by
  unfold pelicanlaw06_KnowMore.PureS
  intros
  rfl
end Go.Proofs.Ytfonjmggalkbjaa.Pure
