/- Any number, of any size, has the bytes, or none, any bytes tell the number, or none, any numbers have the bytes, and any bytes are the numbers, or none, as the reference says (at most 60 numbers, 400 bytes). For every input; no condition of its own. -/
import Derived.Test.YtnhfgpffhgiejaaHPureLast
namespace Go.Proofs.Ytnhfgpffhgiejaa.Pure
open Go.Proofs.Ytnhfgpffhgiejaa.P
theorem NumTells : pelicanlaw03_NumTells.PureS := NumTells_pure
end Go.Proofs.Ytnhfgpffhgiejaa.Pure
