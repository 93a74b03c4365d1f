/- KnowLacks, in plain data. -/
import Derived.Test.YtfonjmggalkbjaaHStmtKnowLacks
namespace Go.Proofs.Ytfonjmggalkbjaa.Pure
open Go.RowKit Go.Proofs.Ytfonjmggalkbjaa.P Go.Proofs.YtfonjmggalkbjaaW.PrintWords Go.Proofs.YtfonjmggalkbjaaW.PrintLast
theorem KnowLacks : pelicanlaw06_KnowLacks.PureS := by
  unfold pelicanlaw06_KnowLacks.PureS
  intros
  rfl
end Go.Proofs.Ytfonjmggalkbjaa.Pure
