/- How the arguments of the laws read. Written by frame.py. -/
import Derived.Test.YtgmlcohffdeplaaGreatRows
import Derived.Test.YtgmlcohffdeplaaGreatRead
import Derived.Test.YtgmlcohffdeplaaGreatNest
import Derived.Test.YtgmlcohffdeplaaGreatMWin
namespace Go.Proofs.YtgmlcohffdeplaaGreat
open Go.RowKit Go.ChangeShapes Go.WideShapes Go.Deep

theorem cells_55 : Tryz.prog.cellsOf 55 = 1 := by kernel_rfl
theorem cells_5 : Tryz.prog.cellsOf 5 = 1 := by kernel_rfl
theorem rd_5 {H : Type} {enc : TypeId × Value → H} {W : World} : Rd enc Tryz.prog W 5 RU8 := rd_u8 Tryz.underlying5

theorem rd_55 {H : Type} {enc : TypeId × Value → H} {W : World} : Rd enc Tryz.prog W 55 (RSl RU8 1) := rd_slice Tryz.underlying55 cells_5 (by decide) rd_5

end Go.Proofs.YtgmlcohffdeplaaGreat
