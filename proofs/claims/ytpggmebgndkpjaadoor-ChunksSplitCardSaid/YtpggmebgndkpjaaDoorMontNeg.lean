/- The contract of mont.Neg. -/
import Derived.Test.YtpggmebgndkpjaaDoorMontSub
namespace Go.Proofs.YtpggmebgndkpjaaDoor
set_option linter.all false
open Go.RowKit

end Go.Proofs.YtpggmebgndkpjaaDoor
