/- What every row of this seat needs: the world's shape. -/
import Derived.Test.YtklmgogppljolaaFrame
import Derived.Test.YtklmgogppljolaaIter
import Derived.HandedShaped
namespace Go.Proofs.Ytklmgogppljolaa
open Go.RowKit Go.WideShapes Go.ChangeShapes Go.ChangeAt
theorem laid : laidOutB Try.prog = true := by kernel_rfl
theorem own : ownKnob Try.prog.godebug = none := by kernel_rfl
theorem ml_of {w : World} (h : w.ShapedOpen Try.prog) : ML w :=
  Go.Proofs.cell_of_shapedOpen_int (zero := #[.int .i64 0]) (t := 3) h (of_decide_eq_true (by kernel_rfl)) (by kernel_rfl) rfl (by kernel_rfl) (by kernel_rfl) Try.underlying3
end Go.Proofs.Ytklmgogppljolaa
