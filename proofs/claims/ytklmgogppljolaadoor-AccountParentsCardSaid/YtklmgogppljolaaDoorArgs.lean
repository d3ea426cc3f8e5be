/- What every row of this seat needs: the world's shape. -/
import Derived.Test.YtklmgogppljolaaDoorFrame
import Derived.Test.YtklmgogppljolaaDoorIter
import Derived.HandedShaped
namespace Go.Proofs.YtklmgogppljolaaDoor
open Go.RowKit Go.WideShapes Go.ChangeShapes Go.ChangeAt
theorem laid : laidOutB Tryd.prog = true := by kernel_rfl
theorem own : ownKnob Tryd.prog.godebug = none := by kernel_rfl
theorem ml_of {w : World} (h : w.ShapedOpen Tryd.prog) : ML w :=
  Go.Proofs.cell_of_shapedOpen_int (zero := #[.int .i64 0]) (t := 3) h (of_decide_eq_true (by kernel_rfl)) (by kernel_rfl) rfl (by kernel_rfl) (by kernel_rfl) Tryd.underlying3
end Go.Proofs.YtklmgogppljolaaDoor
