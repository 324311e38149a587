/- Contracts of the laws' own helpers. Written by gen.py. -/
import Derived.Test.YtlaoflpgngfbpaaRows
import Derived.Test.YtlaoflpgngfbpaaData
import Derived.Deep.Light
namespace Go.Proofs.Ytlaoflpgngfbpaa
open Go.RowKit

end Go.Proofs.Ytlaoflpgngfbpaa
