/- TermPair, in plain data. -/
import Derived.Test.YtmmmmedcgmcoaaaHStmtTermPair
namespace Go.Proofs.Ytmmmmedcgmcoaaa.Pure
open Go.RowKit Go.Proofs.Ytmmmmedcgmcoaaa.P Go.Proofs.YtmmmmedcgmcoaaaW.PrintWords Go.Proofs.YtmmmmedcgmcoaaaW.PrintLast
theorem TermPair : pelicanlaw05_TermPair.PureS := by
  unfold pelicanlaw05_TermPair.PureS
  intros
  rfl
end Go.Proofs.Ytmmmmedcgmcoaaa.Pure
