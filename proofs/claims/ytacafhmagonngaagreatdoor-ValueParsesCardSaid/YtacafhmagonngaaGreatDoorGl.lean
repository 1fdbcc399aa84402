/- What the row's condition gives: what the library's variables hold. -/
import Derived.Test.YtacafhmagonngaaGreatDoorRows
import Derived.Test.YtacafhmagonngaaGreatDoorFe2
import Derived.ProofKit
import Derived.LaidMore
import Derived.Lay
import Derived.Stop.Joined
import Derived.Stop.LaidErr
import Derived.Lib.LaidTab
set_option linter.unusedVariables false
set_option linter.unusedSimpArgs false
namespace Go.Proofs.YtacafhmagonngaaGreatDoor
open Go.ChangeShapes Go.WideShapes Go.ChangeAt Go.RowKit

def laidL : List (String × DataW Unit) := [("math/bits.deBruijn32tab", Rows.laid_math_bits_deBruijn32tab), ("math/bits.deBruijn64tab", Rows.laid_math_bits_deBruijn64tab), ("internal/strconv.uint64pow10", Rows.laid_internal_strconv_uint64pow10), ("strconv.ErrRange", Rows.laid_strconv_ErrRange), ("strconv.ErrSyntax", Rows.laid_strconv_ErrSyntax)]
def tzZ : List Int := [0, 1, 56, 2, 57, 49, 28, 3, 61, 58, 42, 50, 38, 29, 17, 4, 62, 47, 59, 36, 45, 43, 51, 22, 53, 39, 33, 30, 24, 18, 12, 5, 63, 55, 48, 27, 60, 41, 37, 16, 46, 35, 44, 21, 52, 32, 23, 11, 54, 26, 40, 15, 34, 20, 31, 10, 25, 14, 19, 9, 13, 8, 7, 6]
theorem tz_data : (Rows.laid_math_bits_deBruijn64tab : DataW Unit) = Lib.tabData .u8 tzZ := by kernel_rfl
theorem pow_data : (Rows.laid_internal_strconv_uint64pow10 : DataW Unit) = Lib.tabData .u64 Lib.pow10Tab := by kernel_rfl
theorem star : "*" ++ "errors.errorString" = "*errors.errorString" := by decide
theorem row_err (u : TypeId) (h : Tryz.prog.typeName? 3 u = some "*errors.errorString") : u = 158 :=
  typeName_ptr_named (nm := "errors.errorString") (by rw [star]; kernel_rfl) (by kernel_rfl) (by decide) u (by rw [star]; exact h)
theorem laid_of {W : World} (h : laidMetH Tryz.prog laidL W) : Laid W := by
  rw [MakeChecks.laidMetH_plain _ _ _ (by kernel_rfl)] at h
  have h1 := h.tail
  have h2 := h1.tail
  have h3 := h2.tail
  have h4 := h3.tail
  refine ⟨?_, ?_, ?_, ?_⟩
  · rw [pow_data] at h2
    exact Lib.tabIs_of_head (by kernel_rfl : Tryz.prog.globalNamed "internal/strconv.uint64pow10" = some 4) (by kernel_rfl : _ = some 150) Tryz.underlying150 Tryz.underlying24 (by kernel_rfl) (by kernel_rfl) h2
  · rw [tz_data] at h1
    have ht := Lib.tabIs_of_head (by kernel_rfl : Tryz.prog.globalNamed "math/bits.deBruijn64tab" = some 6) (by kernel_rfl : _ = some 163) Tryz.underlying163 Tryz.underlying5 (by kernel_rfl) (by kernel_rfl) h1
    have := World.var?_cell (by kernel_rfl : Tryz.prog.globalNamed "math/bits.deBruijn64tab" = some 6) ht 15
    rw [this]
    rfl
  · obtain ⟨a, s, hv, _⟩ := laid_sentinel h4 (by kernel_rfl : Tryz.prog.globalNamed "strconv.ErrSyntax" = some 2) (by kernel_rfl : _ = some 91) Tryz.underlying91 row_err Tryz.underlying158 Tryz.underlying160 rfl rfl Tryz.underlying9 (by kernel_rfl) (by kernel_rfl)
    exact ⟨_, _, hv⟩
  · obtain ⟨a, s, hv, _⟩ := laid_sentinel h3 (by kernel_rfl : Tryz.prog.globalNamed "strconv.ErrRange" = some 3) (by kernel_rfl : _ = some 91) Tryz.underlying91 row_err Tryz.underlying158 Tryz.underlying160 rfl rfl Tryz.underlying9 (by kernel_rfl) (by kernel_rfl)
    exact ⟨_, _, hv⟩
end Go.Proofs.YtacafhmagonngaaGreatDoor
