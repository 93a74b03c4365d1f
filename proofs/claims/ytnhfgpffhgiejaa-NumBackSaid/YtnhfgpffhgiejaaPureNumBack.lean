/- What num.Put puts is what num.Get gets, whatever stands around it, and what is got is put as the same bytes (at most 200 bytes each). For every input; no condition of its own. -/
import Derived.Test.YtnhfgpffhgiejaaHPureNum
namespace Go.Proofs.Ytnhfgpffhgiejaa.Pure
open Go.Proofs.Ytnhfgpffhgiejaa.P
theorem NumBack : pelicanlaw03_NumBack.Pure := NumBack_pure
end Go.Proofs.Ytnhfgpffhgiejaa.Pure
