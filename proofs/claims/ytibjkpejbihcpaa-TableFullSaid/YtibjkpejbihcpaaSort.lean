/- slices.SortFunc at quotes: laid. -/
import Derived.Shelf.SlSortCmp.WholeK
import Derived.Shelf.Lay
import Derived.Ground.SlsfProg
import Derived.Test.YtibjkpejbihcpaaTab
namespace Go.Proofs.Ytibjkpejbihcpaa
open Go.Shelf Go.RowKit Go.Lib Go.Sort
shelf_lay_g SlLaysF0.n6 Slsf 6 at Try 37 as Try.sortQ
end Go.Proofs.Ytibjkpejbihcpaa
