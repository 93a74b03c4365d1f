/- The statement of TermPair over plain data: written by a program of the session. -/
import Derived.Test.YtmmmmedcgmcoaaaHTypes
import Derived.Test.YtmmmmedcgmcoaaaHPair
namespace Go.Proofs.Ytmmmmedcgmcoaaa.P
open Go.RowKit Go.Proofs.YtmmmmedcgmcoaaaW.PrintWords Go.Proofs.YtmmmmedcgmcoaaaW.PrintLast
set_option linter.unusedVariables false
set_option linter.unusedSimpArgs false
def pelicanlaw05_TermPair.PureS : Prop := ∀ (x0 : S24) (x1 : S24), G24 x0 → G24 x1 → pelicanlaw05_TermPair.f x0.f0 x0.f1 x0.f2 x1.f0 x1.f1 x1.f2 = some true
end Go.Proofs.Ytmmmmedcgmcoaaa.P
