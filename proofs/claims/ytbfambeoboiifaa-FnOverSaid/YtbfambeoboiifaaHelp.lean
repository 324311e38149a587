/- Contracts of the laws' own helpers. Written by gen.py. -/
import Derived.Test.YtbfambeoboiifaaRows
import Derived.Test.YtbfambeoboiifaaData
import Derived.Deep.Light
namespace Go.Proofs.Ytbfambeoboiifaa
open Go.RowKit

end Go.Proofs.Ytbfambeoboiifaa
