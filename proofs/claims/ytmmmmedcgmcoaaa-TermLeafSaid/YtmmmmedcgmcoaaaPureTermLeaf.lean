/- TermLeaf, in plain data. -/
import Derived.Test.YtmmmmedcgmcoaaaHStmtTermLeaf
namespace Go.Proofs.Ytmmmmedcgmcoaaa.Pure
open Go.RowKit Go.Proofs.Ytmmmmedcgmcoaaa.P Go.Proofs.YtmmmmedcgmcoaaaW.PrintWords Go.Proofs.YtmmmmedcgmcoaaaW.PrintLast
theorem TermLeaf : pelicanlaw05_TermLeaf.PureS := fun _ _ _ _ => rfl
end Go.Proofs.Ytmmmmedcgmcoaaa.Pure
