/- Of two numbers that fit a size the lesser one's bytes stand ahead, and of one more byte, with a nought ahead, a number is the same. For every input; no condition of its own. -/
import Derived.Test.YtnhfgpffhgiejaaHPureNum
namespace Go.Proofs.Ytnhfgpffhgiejaa.Pure
open Go.Proofs.Ytnhfgpffhgiejaa.P
theorem NumOrder : pelicanlaw03_NumOrder.Pure := NumOrder_pure
end Go.Proofs.Ytnhfgpffhgiejaa.Pure
