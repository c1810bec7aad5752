/- What the rows' listed variables give the walks: the library's tables. -/
import Derived.Test.YteondblmcooklaaDoorSrcB
import Derived.Test.YteondblmcooklaaDoorRows
import Derived.Test.YteondblmcooklaaDoorTie
import Derived.ProofKit
import Derived.LaidMore
import Derived.Stop.Joined
import Derived.Stop.LaidErr
import Derived.SevenTiedAt
namespace Go.Proofs.YteondblmcooklaaDoor
open Go Go.RowKit
set_option linter.unusedVariables false
abbrev laids : List (String × DataW Unit) := [("math/bits.deBruijn32tab", Rows.laid_math_bits_deBruijn32tab), ("math/bits.deBruijn64tab", Rows.laid_math_bits_deBruijn64tab), ("internal/strconv.uint64pow10", Rows.laid_internal_strconv_uint64pow10), ("unicode.White_Space", Rows.laid_unicode_White_Space), ("strings.asciiSpace", Rows.laid_strings_asciiSpace)]
theorem door_met (os : Os) (args : Array Value) : laidMetH Tryd.prog laids ((World.doorLaid Tryd.prog 400 os).forCall (fun _ _ => 0) ⟨#[], args, []⟩).memory :=
  laidMetH_of_parts3 (fuel := 8) (laidMet_of_run' 8 (by kernel_rfl) (by kernel_rfl)) (by kernel_rfl) (by kernel_rfl)
theorem pow_data : (Rows.laid_internal_strconv_uint64pow10 : DataW Unit) = Lib.tabData .u64 Lib.pow10Tab := by kernel_rfl
theorem spc_data : (Rows.laid_strings_asciiSpace : DataW Unit) = Lib.tabData .u8 Lib.asciiSpaceTab := by kernel_rfl
theorem tabs_of_laid {W : World} (h : laidMetH Tryd.prog laids W) : Tabs W := by
  rw [MakeChecks.laidMetH_plain _ _ _ (by kernel_rfl)] at h
  have h3 := laidMet.tail (laidMet.tail h)
  have h5 := laidMet.tail (laidMet.tail h3)
  rw [pow_data] at h3
  rw [spc_data] at h5
  exact ⟨Lib.tabIs_of_head (t := 100) (e := 5) (n := 256) gSp (by kernel_rfl) (by kernel_rfl) (by kernel_rfl) (by kernel_rfl) (by kernel_rfl) h5, Lib.tabIs_of_head (t := 152) (e := 136) (n := 20) gPw (by kernel_rfl) (by kernel_rfl) (by kernel_rfl) (by kernel_rfl) (by kernel_rfl) h3⟩
end Go.Proofs.YteondblmcooklaaDoor
