/- Of sizes a number fits all from some one on, up to 8, and the greatest number fits 8 alone. For every input; no condition of its own. -/
import Derived.Test.YtnhfgpffhgiejaaHPureNum
namespace Go.Proofs.Ytnhfgpffhgiejaa.Pure
open Go.Proofs.Ytnhfgpffhgiejaa.P
theorem NumFits : pelicanlaw03_NumFits.Pure := NumFits_pure
end Go.Proofs.Ytnhfgpffhgiejaa.Pure
