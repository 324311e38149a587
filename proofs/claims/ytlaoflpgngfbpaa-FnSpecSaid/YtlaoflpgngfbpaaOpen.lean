/- How the arguments of the laws read. Written by frame.py. -/
import Derived.Test.YtlaoflpgngfbpaaRows
import Derived.Test.YtlaoflpgngfbpaaRead
import Derived.Test.YtlaoflpgngfbpaaNest
namespace Go.Proofs.Ytlaoflpgngfbpaa
open Go.RowKit Go.ChangeShapes Go.WideShapes Go.Deep

theorem cells_22 : Try.prog.cellsOf 22 = 1 := by kernel_rfl
theorem cells_5 : Try.prog.cellsOf 5 = 1 := by kernel_rfl
theorem rd_5 {H : Type} {enc : TypeId × Value → H} {W : World} : Rd enc Try.prog W 5 RU8 := rd_u8 Try.underlying5

theorem rd_22 {H : Type} {enc : TypeId × Value → H} {W : World} : Rd enc Try.prog W 22 (RSl RU8 1) := rd_slice Try.underlying22 cells_5 (by decide) rd_5

end Go.Proofs.Ytlaoflpgngfbpaa
