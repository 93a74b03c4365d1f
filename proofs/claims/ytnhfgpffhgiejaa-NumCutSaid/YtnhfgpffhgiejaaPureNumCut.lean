/- What is cut is put together as the same bytes, and a byte more is not cut by these sizes (at most 400 bytes, 50 sizes). For every input; no condition of its own. -/
import Derived.Test.YtnhfgpffhgiejaaHPureLast
namespace Go.Proofs.Ytnhfgpffhgiejaa.Pure
open Go.Proofs.Ytnhfgpffhgiejaa.P
theorem NumCut : pelicanlaw03_NumCut.PureS := NumCut_pure
end Go.Proofs.Ytnhfgpffhgiejaa.Pure
