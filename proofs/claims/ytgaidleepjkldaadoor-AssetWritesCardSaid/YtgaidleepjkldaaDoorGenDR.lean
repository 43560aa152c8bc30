/- The walk of the reference's Decode. Printed by wip/gendr.py. -/
import Derived.Test.YtgaidleepjkldaaDoorGenD
import Derived.Test.YtgaidleepjkldaaDoorDr
namespace Go.Proofs.YtgaidleepjkldaaDoor
open Go.RowKit

end Go.Proofs.YtgaidleepjkldaaDoor
