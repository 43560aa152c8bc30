/- The zero values of more than 64 cells, where the seat gives no constants for them. -/
import Derived.Test.YtllckpcggmfmkaaDoorMem
namespace Go.Proofs.YtllckpcggmfmkaaDoor
open Go.RowKit

end Go.Proofs.YtllckpcggmfmkaaDoor
