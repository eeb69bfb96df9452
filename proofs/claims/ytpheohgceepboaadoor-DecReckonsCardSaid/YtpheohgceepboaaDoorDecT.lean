/- The table of the powers of ten from a row's condition; a number's digits within reach. -/
import Derived.Test.YtpheohgceepboaaDoorRows
import Derived.Test.YtpheohgceepboaaDoorDecL
import Derived.SizedLaws
import Derived.LaidMore
import Derived.MakeChecks
import Derived.Lib.LaidTab
import Derived.Stop.LaidErr
import Derived.Lib.SmallJoins
set_option linter.unusedVariables false
set_option linter.unusedSimpArgs false
set_option maxRecDepth 100000
namespace Go.Proofs.YtpheohgceepboaaDoor
open Go.RowKit Go.Mem Orange

theorem tab_of {W : World} (h : laidMetH Tryd.prog Rows.decBackRow.laid W) : Tab W := by
  rw [MakeChecks.laidMetH_plain _ _ _ (by kernel_rfl)] at h
  have h' : laidMet Tryd.prog (("math/bits.deBruijn32tab", Rows.laid_math_bits_deBruijn32tab) :: ("math/bits.deBruijn64tab", Rows.laid_math_bits_deBruijn64tab) :: ("internal/strconv.uint64pow10", Lib.tabData .u64 Lib.pow10Tab) :: [("unicode/utf8.acceptRanges", Rows.laid_unicode_utf8_acceptRanges), ("unicode/utf8.first", Rows.laid_unicode_utf8_first)]) W := h
  exact Lib.tabIs_of_head (g := 3) (t := 114) (n := 20) (by kernel_rfl) (by kernel_rfl) (by kernel_rfl) Tryd.underlying93 (by kernel_rfl) (by kernel_rfl) (laidMet.tail (laidMet.tail h'))
theorem sized_dec {H : Type} {P : Program} {ts : List TypeId} {ds : List (DataW H)} (h : (DataW.weightsEach P ts ds).all (· ≤ reachBytes) = true) {j : Nat} {t : TypeId} {f0 f1 f2 : Field} {b : Bool} {bytes : List UInt8} {x : Int}
    (hu : P.underlying t = some (.struct #[f0, f1, f2])) (ht : ts[j]? = some t) (hd : ds[j]? = some (.agg [.lit (.bool b), .lit (.string bytes), .lit (.int .i64 x)])) : bytes.length ≤ 140737488351232 := by
  have := List.all_eq_true.1 h _ (DataW.weights_mem_each ht hd bytes.length (by simp [DataW.weights, DataW.weightsEach, hu]))
  have h2 : bytes.length ≤ reachBytes := by simpa using this
  exact Nat.le_trans h2 (by decide)
end Go.Proofs.YtpheohgceepboaaDoor
