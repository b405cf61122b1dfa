/- The contract of the reference's Sub modulo p. -/
import Derived.Test.YtpggmebgndkpjaaDoorRefOps
namespace Go.Proofs.YtpggmebgndkpjaaDoor
set_option linter.all false
open Go.RowKit

end Go.Proofs.YtpggmebgndkpjaaDoor
