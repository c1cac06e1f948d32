/- A value's block. -/
import Derived.Test.YtdfjhhhbkgelaaaGreatDoorBase
namespace Go.Proofs.YtdfjhhhbkgelaaaGreatDoor.V
set_option linter.unusedVariables false
set_option linter.unusedSimpArgs false
open Go.RowKit

/-- The cells of a value's box, and what a call leaves of them. -/
structure Box (w : World) (b : Nat) (s : Bool) (t : ByteArray) (n : Int) : Prop where
  lt : b < w.heap.size
  c0 : w.cell? ⟨b, 0, none⟩ = some (.bool s)
  c1 : w.cell? ⟨b, 1, none⟩ = some (.string t)
  c2 : w.cell? ⟨b, 2, none⟩ = some (.int .i64 n)
theorem Box.below {w w' : World} {b : Nat} {s : Bool} {t : ByteArray} {n : Int} (h : Box w b s t n) (hb : Below w.heap.size w w') : Box w' b s t n :=
  ⟨Nat.lt_of_lt_of_le h.lt hb.size, cell_below hb h.c0, cell_below hb h.c1, cell_below hb h.c2⟩
theorem Box.new (w : World) (s : Bool) (t : ByteArray) (n : Int) : Box (w.alloc (.cells #[.bool s, .string t, .int .i64 n] 59)) w.heap.size s t n := by
  have h := heap_alloc_new w (.cells #[.bool s, .string t, .int .i64 n] 59)
  exact ⟨by simp, cell_of_row _ _ 0 _ _ _ h, cell_of_row _ _ 1 _ _ _ h, cell_of_row _ _ 2 _ _ _ h⟩
theorem Box.alloc {w : World} {b : Nat} {s : Bool} {t : ByteArray} {n : Int} (h : Box w b s t n) (o : Obj) : Box (w.alloc o) b s t n := h.below ((Below.refl _ _).alloc (Nat.le_refl _) o)

end Go.Proofs.YtdfjhhhbkgelaaaGreatDoor.V
