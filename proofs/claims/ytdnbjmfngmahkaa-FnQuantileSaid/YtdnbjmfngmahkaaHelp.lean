/- Contracts of the laws' own helpers. Written by gen.py. -/
import Derived.Test.YtdnbjmfngmahkaaRows
import Derived.Test.YtdnbjmfngmahkaaData
import Derived.Deep.Light
namespace Go.Proofs.Ytdnbjmfngmahkaa
open Go.RowKit

end Go.Proofs.Ytdnbjmfngmahkaa
