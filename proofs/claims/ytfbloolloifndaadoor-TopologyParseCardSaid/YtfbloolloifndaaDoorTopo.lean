/-
  Contracts of package topology's and of the reference's small functions: number of arcs, tail, head, cost, overload marks.
-/
import Derived.Test.YtfbloolloifndaaDoorValid
namespace Go.Proofs.YtfbloolloifndaaDoor
open Go.RowKit Go.Sort

end Go.Proofs.YtfbloolloifndaaDoor
