/- TermEdge, in plain data. -/
import Derived.Test.YtmmmmedcgmcoaaaHStmtTermEdge
namespace Go.Proofs.Ytmmmmedcgmcoaaa.Pure
open Go.RowKit Go.Proofs.Ytmmmmedcgmcoaaa.P Go.Proofs.YtmmmmedcgmcoaaaW.PrintWords Go.Proofs.YtmmmmedcgmcoaaaW.PrintLast
theorem TermEdge : pelicanlaw05_TermEdge.PureS := by
  unfold pelicanlaw05_TermEdge.PureS
  intros
  rfl
end Go.Proofs.Ytmmmmedcgmcoaaa.Pure
