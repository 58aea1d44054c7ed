/- The two tables of unicode/utf8, off the row's list. -/
import Derived.Test.YtfjndjbpgcggkaaDoorDN3
import Derived.Test.YtfjndjbpgcggkaaDoorRows
import Derived.Lib.LaidU8T
import Derived.PinnedBridge
set_option linter.unusedVariables false
set_option linter.unusedSimpArgs false
namespace Go.Proofs.YtfjndjbpgcggkaaDoor
open Go.RowKit Go.Lib

theorem u8extra : U8Extra Tryd.prog Tryd.lays196_ren := ⟨by kernel_rfl, by kernel_rfl, by kernel_rfl, by kernel_rfl, by kernel_rfl, by kernel_rfl, by kernel_rfl⟩
theorem accept_eq : (Rows.laid_unicode_utf8_acceptRanges (H := Unit)) = acceptData := by kernel_rfl
theorem first_eq : Rows.laid_unicode_utf8_first = firstData := Pinned.utf8First_eq
theorem tabsBelow_of_laid {laid : List (String × DataW Unit)} {W : World} (hL : laidMet Tryd.prog laid W) (h1 : ("unicode/utf8.first", Rows.laid_unicode_utf8_first) ∈ laid) (h2 : ("unicode/utf8.acceptRanges", Rows.laid_unicode_utf8_acceptRanges) ∈ laid) : TabsBelow W.heap.size W := by
  have h3 := Lib.laidMet.reads hL h1
  have h4 := Lib.laidMet.reads hL h2
  rw [first_eq] at h3
  rw [accept_eq] at h4
  exact fun w' hb => Utf8Tabs_below (utf8Tabs_of_readsT (U8Types.of196 Tryd.lays196) u8extra h3 h4) hb
end Go.Proofs.YtfjndjbpgcggkaaDoor
