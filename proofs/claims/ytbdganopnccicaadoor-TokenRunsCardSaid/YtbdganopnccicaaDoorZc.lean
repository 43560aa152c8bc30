/- The zero values of more than 64 cells, where the seat gives no constants for them. -/
import Derived.Test.YtbdganopnccicaaDoorMem
namespace Go.Proofs.YtbdganopnccicaaDoor
open Go.RowKit

end Go.Proofs.YtbdganopnccicaaDoor
