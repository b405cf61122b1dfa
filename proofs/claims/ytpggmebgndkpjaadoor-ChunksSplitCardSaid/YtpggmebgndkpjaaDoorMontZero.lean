/- The contract of mont.IsZero. -/
import Derived.Test.YtpggmebgndkpjaaDoorIsZero
namespace Go.Proofs.YtpggmebgndkpjaaDoor
set_option linter.all false
open Go.RowKit

end Go.Proofs.YtpggmebgndkpjaaDoor
