/- What a row of law06 opens: the laid variables, a world for the witness. -/
import Derived.Test.YtdfjhhhbkgelaaaGreatDoorCards
import Derived.Test.YtdfjhhhbkgelaaaGreatDoorTie
import Derived.Test.YtdfjhhhbkgelaaaGreatDoorNum
import Derived.WalkKit
import Derived.ProofKit
import Derived.OpenShut
import Derived.OpenVars
import Derived.ShutString
import Derived.ChangeOld
import Derived.Deep.DeepHandedRow
import Derived.Lib.LaidTab
import Derived.Stop.LaidErr
namespace Go.Proofs.YtdfjhhhbkgelaaaGreatDoor.V
set_option linter.unusedSimpArgs false
set_option linter.unusedVariables false
open Go.ChangeShapes Go.WideShapes Go.ChangeAt Go.RowKit
set_option maxRecDepth 100000

theorem own : ownKnob Tryz.prog.godebug = none := by kernel_rfl
theorem laidOut : laidOutB Tryz.prog = true := by kernel_rfl

/-- What is laid. -/
abbrev laidL {H : Type} : List (String × DataW H) := [("math/bits.deBruijn32tab", Rows.laid_math_bits_deBruijn32tab), ("math/bits.deBruijn64tab", Rows.laid_math_bits_deBruijn64tab), ("internal/strconv.uint64pow10", Rows.laid_internal_strconv_uint64pow10), ("strconv.ErrRange", Rows.laid_strconv_ErrRange), ("strconv.ErrSyntax", Rows.laid_strconv_ErrSyntax)]
theorem err_cell {W : World} {n : String} {g : Nat} {u : TypeId} {a : Value} (hn : Tryz.prog.globalNamed n = some g) (h : W.var? Tryz.prog n = some #[.iface u a]) : ∃ ev, W.cell? ⟨g, 0, none⟩ = some ev ∧ ∃ te pe, ev = .iface te pe :=
  ⟨_, by simpa using World.var?_cell hn h 0, _, _, rfl⟩
theorem errW_of {W : World} (h : laidMetH Tryz.prog laidL W) : ErrW W := by
  have h0 : laidMet Tryz.prog laidL W := h
  have h3 := laidMet.tail (laidMet.tail (laidMet.tail h0))
  have h4 := laidMet.tail h3
  have hp : ∀ u, Tryz.prog.typeName? 3 u = some "*errors.errorString" → u = 140 := by
    have star : "*" ++ "errors.errorString" = "*errors.errorString" := by decide
    intro u hu
    exact typeName_ptr_named (nm := "errors.errorString") (by rw [star]; kernel_rfl) (by kernel_rfl) (by decide) u (by rw [star]; exact hu)
  obtain ⟨a1, s1, hv1, _⟩ := laid_sentinel h3 (g := 3) (by kernel_rfl) (by kernel_rfl) Tryz.underlying52 hp Tryz.underlying140 Tryz.underlying142 rfl rfl Tryz.underlying9 (by kernel_rfl) (by kernel_rfl)
  obtain ⟨a2, s2, hv2, _⟩ := laid_sentinel h4 (g := 2) (by kernel_rfl) (by kernel_rfl) Tryz.underlying52 hp Tryz.underlying140 Tryz.underlying142 rfl rfl Tryz.underlying9 (by kernel_rfl) (by kernel_rfl)
  exact ⟨err_cell (by kernel_rfl) hv1, err_cell (by kernel_rfl) hv2⟩

/-- The cells of laid data. -/
def datCells : DataW Unit → Array Value
  | .agg l => (l.map fun
    | .lit (.int k n) => Value.int k n
    | _ => .bool false).toArray
  | _ => #[]
/-- A block's cells anew. -/
def putCells (cs : Array Value) : Obj → Obj
  | .cells _ t frozen => .cells cs t frozen
  | o => o
noncomputable def settled (os : Os) : World := World.holding Tryz.prog os ⟨#[], #[], []⟩
/-- A world for the witness: the settled one, the tables and the two errors as they are laid. -/
noncomputable def laidWorld (os : Os) : World :=
  { settled os with
    heap := ((((((settled os).heap.modify 4 (putCells (datCells Rows.laid_math_bits_deBruijn32tab))).modify 5 (putCells (datCells Rows.laid_math_bits_deBruijn64tab))).modify 0 (putCells (datCells Rows.laid_internal_strconv_uint64pow10))).modify 3 (putCells #[.iface 140 (.pointer (some ⟨(settled os).heap.size, 0, none⟩))])).modify 2 (putCells #[.iface 140 (.pointer (some ⟨(settled os).heap.size + 1, 0, none⟩))])).push (.cells #[.string ⟨#[118, 97, 108, 117, 101, 32, 111, 117, 116, 32, 111, 102, 32, 114, 97, 110, 103, 101]⟩] 142) |>.push (.cells #[.string ⟨#[105, 110, 118, 97, 108, 105, 100, 32, 115, 121, 110, 116, 97, 120]⟩] 142) }
theorem laid_met (os : Os) (args : Array Value) : laidMet Tryz.prog laidL ((laidWorld os).forCall (fun _ _ => 0) ⟨#[], args, []⟩).memory :=
  laidMet_of_run' 8 (by kernel_rfl) (by kernel_rfl)
theorem string_bulk {H : Type} (t : ByteArray) {l : List (DataW H)} (h : (.lit (.string t.data.toList) : DataW H) ∈ l) (hk : Rows.uptoBulkAll l ≤ 1048576) : t.size ≤ 1048576 := by
  induction l with
  | nil => cases h
  | cons x r ih =>
    simp only [Rows.uptoBulkAll] at hk
    rcases List.mem_cons.1 h with e | e
    · subst e
      simp only [Rows.uptoBulk] at hk
      have : t.data.toList.length = t.size := by simp
      omega
    · exact ih e (by omega)
end Go.Proofs.YtdfjhhhbkgelaaaGreatDoor.V
