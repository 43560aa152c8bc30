/- The zero values of more than 64 cells, where the seat gives no constants for them. -/
import Derived.Test.YtdopbhahcpjjgaaDoorMem
namespace Go.Proofs.YtdopbhahcpjjgaaDoor
open Go.RowKit

end Go.Proofs.YtdopbhahcpjjgaaDoor
