/- What the rows' list gives: unicode/utf8's two tables hold what their initialisers lay. -/
import Derived.Test.YthfgnjdekhfabaaDoorRows
import Derived.Test.YthfgnjdekhfabaaDoorShelf
import Derived.Lib.LaidU8
import Derived.MakeChecks
namespace Go.Proofs.YthfgnjdekhfabaaDoor
open Go.RowKit Go.Lib

theorem u8_extra : U8Extra Tryd.prog Tryd.lays260_ren := {
  n3 := by kernel_rfl
  n4 := by kernel_rfl
  y3 := by kernel_rfl
  y4 := by kernel_rfl
  c5 := by kernel_rfl
  c119 := by kernel_rfl
  c138 := by kernel_rfl }

theorem first_same : Rows.laid_unicode_utf8_first = firstData := by kernel_rfl
theorem accept_same : (Rows.laid_unicode_utf8_acceptRanges : DataW Unit) = acceptData := by kernel_rfl

theorem tabs_of_laid {W : World} (h : laidMetH Tryd.prog [("unicode/utf8.acceptRanges", Rows.laid_unicode_utf8_acceptRanges), ("unicode/utf8.first", Rows.laid_unicode_utf8_first)] W) : Lib.Utf8Tabs 0 1 W := by
  rw [MakeChecks.laidMetH_plain _ _ _ (by kernel_rfl), first_same, accept_same] at h
  exact utf8Tabs_of_reads Tryd.lays260 u8_extra (laidMet.reads h (by simp)) (laidMet.reads h (by simp))
end Go.Proofs.YthfgnjdekhfabaaDoor
