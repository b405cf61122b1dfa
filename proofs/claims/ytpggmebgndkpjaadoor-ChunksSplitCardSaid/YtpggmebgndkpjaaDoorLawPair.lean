/- The contract of law 5's pair. -/
import Derived.Test.YtpggmebgndkpjaaDoorLawForm
import Derived.Test.YtpggmebgndkpjaaDoorRefMask
import Derived.Test.YtpggmebgndkpjaaDoorHeld
namespace Go.Proofs.YtpggmebgndkpjaaDoor
set_option linter.all false
open Go.RowKit

theorem pr_gt1 (s : Bool) : 1 < pr s := by cases s <;> decide

end Go.Proofs.YtpggmebgndkpjaaDoor
