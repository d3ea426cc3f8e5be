/- What the row's list gives the walks: the table of the powers of ten. -/
import Derived.Test.YtjkpfjnhgbcnkaaDoorCards
import Derived.Test.YtjkpfjnhgbcnkaaDoorTie
import Derived.Test.YtjkpfjnhgbcnkaaDoorFrame
import Derived.Test.YtjkpfjnhgbcnkaaDoorPrint
import Derived.WalkKit
import Derived.ProofKit
import Derived.LaidMore
import Derived.OpenShut
import Derived.Stop.Joined
import Derived.Stop.LaidErr
import Derived.SevenTiedAt
import Derived.Lib.LaidTab
namespace Go.Proofs.YtjkpfjnhgbcnkaaDoor
open Go.ChangeShapes Go.WideShapes Go.ChangeAt Go.RowKit
theorem own : ownKnob Tryd.prog.godebug = none := by kernel_rfl
theorem laidOut : laidOutB Tryd.prog = true := by kernel_rfl
theorem gPowType : (Tryd.prog.globals[1]?).map (·.type) = some 89 := by kernel_rfl
theorem cells89 : Tryd.prog.cellsOf 89 = 20 := by kernel_rfl
theorem cells75 : Tryd.prog.cellsOf 75 = 1 := by kernel_rfl
theorem powData : (Rows.laid_internal_strconv_uint64pow10 : DataW Unit) = Lib.tabData .u64 Lib.pow10Tab := by kernel_rfl
theorem tab_of {W : World} (h : laidMetH Tryd.prog [("math/bits.deBruijn32tab", Rows.laid_math_bits_deBruijn32tab), ("math/bits.deBruijn64tab", Rows.laid_math_bits_deBruijn64tab), ("internal/strconv.uint64pow10", Rows.laid_internal_strconv_uint64pow10)] W) : Tab W := by
  rw [MakeChecks.laidMetH_plain _ _ _ (by kernel_rfl)] at h
  have h2 := h.tail.tail
  rw [powData] at h2
  exact Lib.tabIs_of_head (rest := []) gPow gPowType Tryd.underlying89 Tryd.underlying75 cells75 cells89 h2
end Go.Proofs.YtjkpfjnhgbcnkaaDoor
