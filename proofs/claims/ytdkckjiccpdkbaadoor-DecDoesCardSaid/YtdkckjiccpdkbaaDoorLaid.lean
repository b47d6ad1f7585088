/- What the rows' listed tables give the walks: the table of tens lies. -/
import Derived.Test.YtdkckjiccpdkbaaDoorRows
import Derived.Test.YtdkckjiccpdkbaaDoorH0
import Derived.LaidSub
import Derived.LaidMore
import Derived.Lib.LaidTab
namespace Go.Proofs.YtdkckjiccpdkbaaDoor.H
open Go.RowKit
theorem pow10_data : (Rows.laid_internal_strconv_uint64pow10 : DataW Unit) = Lib.tabData .u64 Lib.pow10Tab := by kernel_rfl
theorem tab_of_laid {W : World} (h : laidMetH Tryd.prog [("math/bits.deBruijn32tab", Rows.laid_math_bits_deBruijn32tab), ("math/bits.deBruijn64tab", Rows.laid_math_bits_deBruijn64tab), ("internal/strconv.uint64pow10", Rows.laid_internal_strconv_uint64pow10), ("unicode/utf8.acceptRanges", Rows.laid_unicode_utf8_acceptRanges), ("unicode/utf8.first", Rows.laid_unicode_utf8_first)] W) : Tab W := by
  have h1 := laidMetH.filter (fun x => x.1 == "internal/strconv.uint64pow10") h
  have h2 : laidMetH Tryd.prog [("internal/strconv.uint64pow10", Rows.laid_internal_strconv_uint64pow10)] W := h1
  rw [MakeChecks.laidMetH_plain _ _ _ (by kernel_rfl), pow10_data] at h2
  exact Lib.tabIs_of_head (g := 0) (t := 114) (by kernel_rfl) (by kernel_rfl) Tryd.underlying114 Tryd.underlying43 (by kernel_rfl) (by kernel_rfl) h2
end Go.Proofs.YtdkckjiccpdkbaaDoor.H
