/- The bytes of numbers are those of the first ones, and of the others, and with their sizes they are cut into just these numbers (at most 20 numbers each). For every input; no condition of its own. -/
import Derived.Test.YtnhfgpffhgiejaaHPureNumCat
namespace Go.Proofs.Ytnhfgpffhgiejaa.Pure
open Go.Proofs.Ytnhfgpffhgiejaa.P
theorem NumCat : pelicanlaw03_NumCat.PureS := NumCat_pure
end Go.Proofs.Ytnhfgpffhgiejaa.Pure
