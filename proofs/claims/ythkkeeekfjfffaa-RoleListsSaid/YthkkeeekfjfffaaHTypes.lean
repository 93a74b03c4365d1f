/- What comes in, for this seat: written by a program of the session. -/
import Derived.Test.YthkkeeekfjfffaaHOpens
import Derived.Test.YthkkeeekfjfffaaPx0
namespace Go.Proofs.Ythkkeeekfjfffaa.P
open Go.RowKit Go.Proofs.YthkkeeekfjfffaaW.PrintWords Go.Proofs.YthkkeeekfjfffaaW.PrintLast
set_option linter.unusedVariables false
set_option linter.unusedSimpArgs false

end Go.Proofs.Ythkkeeekfjfffaa.P
