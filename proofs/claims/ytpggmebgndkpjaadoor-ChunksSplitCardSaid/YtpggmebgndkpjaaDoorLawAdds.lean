/- The walk of law 5's MontAdds. -/
import Derived.Test.YtpggmebgndkpjaaDoorLawPair
import Derived.Test.YtpggmebgndkpjaaDoorLawAlive
import Derived.Test.YtpggmebgndkpjaaDoorGrow
import Derived.Test.YtpggmebgndkpjaaDoorRefSubm
namespace Go.Proofs.YtpggmebgndkpjaaDoor
set_option linter.all false
open Go.RowKit

end Go.Proofs.YtpggmebgndkpjaaDoor
