/- A number's two bytes by the reference, beside what twin.Get computes. -/
import Derived.Test.YtfapfpkijeaapaaP0
import Derived.Test.YtfapfpkijeaapaaP7
import Derived.Test.YtfapfpkijeaapaaGet
import Derived.Test.YtfapfpkijeaapaaRefTwoR
namespace Go.Proofs.Ytfapfpkijeaapaa.Base
open Go.RowKit Go.Proofs.YtfapfpkijeaapaaW.PrintWords Go.Proofs.YtfapfpkijeaapaaW.PrintLast Go.Proofs.YtfapfpkijeaapaaW.PrintMore Go.Proofs.Ytfapfpkijeaapaa.P
set_option linter.unusedVariables false
set_option linter.unusedSimpArgs false

end Go.Proofs.Ytfapfpkijeaapaa.Base
