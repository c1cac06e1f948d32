/- What a row of law05 opens beside: the laid table of tens. -/
import Derived.Test.YtdfjhhhbkgelaaaGreatDoorOpen6
import Derived.Test.YtdfjhhhbkgelaaaGreatDoorText
namespace Go.Proofs.YtdfjhhhbkgelaaaGreatDoor.V
set_option linter.unusedSimpArgs false
set_option linter.unusedVariables false
open Go.ChangeShapes Go.WideShapes Go.ChangeAt Go.RowKit
set_option maxRecDepth 100000

theorem tens_eq : (Rows.laid_internal_strconv_uint64pow10 : DataW Unit) = Lib.tabData .u64 Lib.pow10Tab := by kernel_rfl
theorem tens_type : (Tryz.prog.globals[0]?).map (·.type) = some 116 := by kernel_rfl
theorem tabW_of {W : World} (h : laidMetH Tryz.prog laidL W) : TabW W := by
  have h0 : laidMet Tryz.prog laidL W := h
  have h2 := laidMet.tail (laidMet.tail h0)
  rw [tens_eq] at h2
  have h3 : Lib.TabIs Tryz.prog W "internal/strconv.uint64pow10" .u64 Lib.pow10Tab := Lib.tabIs_of_head tab_named tens_type Tryz.underlying116 Tryz.underlying100 (by kernel_rfl) (by kernel_rfl) h2
  refine ⟨?_, h3⟩
  have hc := h3.cell tab_named 0 (by decide)
  rcases Nat.lt_or_ge 0 W.heap.size with h' | h'
  · exact h'
  · simp [World.cell?, Array.getElem?_eq_none h'] at hc
end Go.Proofs.YtdfjhhhbkgelaaaGreatDoor.V
