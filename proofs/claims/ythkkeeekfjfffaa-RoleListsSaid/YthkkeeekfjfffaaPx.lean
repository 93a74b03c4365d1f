-- Laid by a program of this session (wip/pp.py), which calls the kit's print.
import Derived.Test.YthkkeeekfjfffaaPx0
import Derived.Test.YthkkeeekfjfffaaPx1
import Derived.Test.YthkkeeekfjfffaaPx2
import Derived.Test.YthkkeeekfjfffaaPx3
import Derived.Test.YthkkeeekfjfffaaPx4
import Derived.Test.YthkkeeekfjfffaaPx5
import Derived.Test.YthkkeeekfjfffaaPx6
import Derived.Test.YthkkeeekfjfffaaPx7
import Derived.Test.YthkkeeekfjfffaaPx8
import Derived.Test.YthkkeeekfjfffaaPx9
namespace Go.Proofs.Ythkkeeekfjfffaa.P
open Go.RowKit Go.Proofs.YthkkeeekfjfffaaW.PrintWords Go.Proofs.YthkkeeekfjfffaaW.PrintLast Go.Proofs.YthkkeeekfjfffaaW.PrintMore
attribute [local go_sem] max2_int min2_int max_two min_two max_three min_three max_four min_four   -- for this text's walks alone
set_option linter.unusedVariables false
set_option linter.unusedSimpArgs false

end Go.Proofs.Ythkkeeekfjfffaa.P
