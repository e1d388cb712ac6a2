/- Laws of layer 10: shown, and of a nil device. -/
import Derived.Test.YtkgbngonbbajkaaDoorS10G
set_option linter.unusedSimpArgs false
set_option linter.unusedVariables false
-- elder
namespace Go.Proofs.YtkgbngonbbajkaaDoorE
open Go

end Go.Proofs.YtkgbngonbbajkaaDoorE
