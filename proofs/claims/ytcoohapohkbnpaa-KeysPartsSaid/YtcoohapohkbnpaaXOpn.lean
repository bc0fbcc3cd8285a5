/- Printed by xprint.py. -/
/- What an argument of each of the types says (printed by xrow.py). -/
import Derived.Test.YtcoohapohkbnpaaOpn
import Derived.Test.YtcoohapohkbnpaaX0
import Derived.KernelRfl
namespace Go.Proofs.Ytcoohapohkbnpaa
open Go.RowKit Go.Proofs.YtcoohapohkbnpaaW.PrintWords Go.Proofs.YtcoohapohkbnpaaW.PrintLast Go.Proofs.YtcoohapohkbnpaaW.PrintMore
set_option linter.unusedVariables false
set_option maxRecDepth 100000
end Go.Proofs.Ytcoohapohkbnpaa
