-- Out of handprint.py, a program of this session that turns the kit's print: not the kit's print itself. Lean checks it.
import Derived.Test.YtklcggcejaecdaaHx0
import Derived.Test.YtklcggcejaecdaaHx1
import Derived.Test.YtklcggcejaecdaaHx2
import Derived.Test.YtklcggcejaecdaaHx3
namespace Go.Proofs.Ytklcggcejaecdaa.H
open Go.RowKit Go.Proofs.YtklcggcejaecdaaW.PrintWords Go.Proofs.YtklcggcejaecdaaW.PrintLast Go.Proofs.YtklcggcejaecdaaW.PrintMore
attribute [local go_sem] max2_int min2_int max_two min_two max_three min_three max_four min_four   -- for this text's walks alone
set_option linter.unusedVariables false
set_option linter.unusedSimpArgs false

end Go.Proofs.Ytklcggcejaecdaa.H
