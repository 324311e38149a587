/- '==' on two vectors. -/
import Derived.Test.YtgmlcohffdeplaaGreatSmall
import Derived.Laws.StructEq
namespace Go.Proofs.YtgmlcohffdeplaaGreat
open Go.RowKit
theorem run_vec_eq (w : World) (a b c a' b' c' : Int) : (binOp .eql 59 (.agg #[.int .i64 a, .int .i64 b, .int .i64 c]) (.agg #[.int .i64 a', .int .i64 b', .int .i64 c'])).run Tryz.prog w = .ok (.bool (a == a' && (b == b' && c == c'))) w := by
  simp [go_sem, Tryz.underlying59, Tryz.underlying3]
  by_cases h1 : a = a' <;> by_cases h2 : b = b' <;> by_cases h3 : c = c' <;> simp [h1, h2, h3]
theorem vec_guard : Tryz.prog.eqGuardType Tryz.prog.depth 59 = false := by kernel_rfl
theorem run_vec_guard (w : World) (op : BinOp) (x y : Operand) (xs ys : Array Value) : (eqGuard op 59 x y (.agg xs) (.agg ys)).run Tryz.prog w = .ok () w := run_eqGuard_agg w op _ x y xs ys vec_guard
end Go.Proofs.YtgmlcohffdeplaaGreat
