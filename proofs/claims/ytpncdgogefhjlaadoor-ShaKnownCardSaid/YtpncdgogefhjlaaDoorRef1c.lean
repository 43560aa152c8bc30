/- The reference's numbers as digits: Add. -/
import Derived.Test.YtpncdgogefhjlaaDoorRef1b
namespace Go.Proofs.YtpncdgogefhjlaaDoor
open Go.RowKit

end Go.Proofs.YtpncdgogefhjlaaDoor
