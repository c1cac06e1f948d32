/- What a law's row opens: a value of package api, the laid tables, a world for the witness. -/
import Derived.Test.YtogobiijmdgfdaaGreatDoorCards
import Derived.Test.YtogobiijmdgfdaaGreatDoorTie
import Derived.Test.YtogobiijmdgfdaaGreatDoorText
import Derived.WalkKit
import Derived.ProofKit
import Derived.OpenShut
import Derived.OpenVars
import Derived.ShutString
import Derived.ChangeOld
import Derived.Deep.DeepHandedRow
import Derived.Lib.LaidTab
import Derived.Stop.LaidErr
namespace Go.Proofs.YtogobiijmdgfdaaGreatDoor.V
set_option linter.unusedSimpArgs false
set_option linter.unusedVariables false
open Go.ChangeShapes Go.WideShapes Go.ChangeAt Go.RowKit
set_option maxRecDepth 100000

theorem own : ownKnob Tryz.prog.godebug = none := by kernel_rfl
theorem laidOut : laidOutB Tryz.prog = true := by kernel_rfl

theorem trod_struct3 {H : Type} {enc : TypeId × Value → H} {P : Program} {w : World} {base : Nat} {spare : Nat → Bool} {held : Bool} {t : TypeId} {f0 f1 f2 : Field} {fuel : Nat} {cs : List Value} {x : DataW H × List MemPlace} (ht : P.underlying t = some (.struct #[f0, f1, f2])) (h : DataW.trod enc P w base spare held fuel t cs = some x) :
    ∃ y0 y1 y2 n, x.1 = .agg [y0.1, y1.1, y2.1] ∧ DataW.trod enc P w base spare held n f0.type ((cs.drop f0.offset).take (P.cellsOf f0.type)) = some y0 ∧
      DataW.trod enc P w base spare held n f1.type ((cs.drop f1.offset).take (P.cellsOf f1.type)) = some y1 ∧ DataW.trod enc P w base spare held n f2.type ((cs.drop f2.offset).take (P.cellsOf f2.type)) = some y2 := by
  obtain ⟨xs, n, _, rfl, hl, hlen, hf⟩ := DataW.trod_struct ht h
  match xs, hlen with
  | [y0, y1, y2], _ => exact ⟨y0, y1, y2, n, by simp, by simpa using hf 0 f0 rfl, by simpa using hf 1 f1 rfl, by simpa using hf 2 f2 rfl⟩

theorem cell1 {cs : List Value} {i : Nat} {v : Value} (h : (cs.drop i).take 1 = [v]) : cs[i]? = some v := by
  have := congrArg (·[0]?) h
  simpa [List.getElem?_take, List.getElem?_drop] using this

/-- An argument of the type of values. -/
theorem arg_val {H : Type} {enc : TypeId × Value → H} {W : World} {r : Reach} {b0 base : Nat} {v : Value} {y : DataW H} {ps : List MemPlace} {sp : Nat → Bool} {held : Bool} (hv : Value.okWide Tryz.prog W r b0 23 v)
    (h : DataW.Trod enc Tryz.prog W base sp held 23 v y ps) : ∃ s t n, v = .agg #[.bool s, .string t, .int .i64 n] ∧ y = .agg [.lit (.bool s), .lit (.string t.data.toList), .lit (.int .i64 n)] ∧ t.size ≤ maxLen ∧ (Lit.int .i64 n).wf = true := by
  obtain ⟨cs, rfl, hs⟩ := okWide_struct (Tryz.underlying23) hv
  have hs3 : cs.size = 3 := hs.trans (by kernel_rfl)
  obtain ⟨fuel, hf⟩ := h
  obtain ⟨y0, y1, y2, m, hx, h0, h1, h2⟩ := trod_struct3 (Tryz.underlying23) hf
  obtain ⟨s, e0, g0⟩ := DataW.trod_bool (Tryz.underlying4) h0
  obtain ⟨t, e1, g1, ht⟩ := DataW.trod_string (Tryz.underlying9) h1
  obtain ⟨n, e2, g2, hn⟩ := DataW.trod_int (Tryz.underlying2) h2
  have c0 : cs.toList[0]? = some (.bool s) := cell1 ((by exact e0))
  have c1 : cs.toList[1]? = some (.string t) := cell1 ((by exact e1))
  have c2 : cs.toList[2]? = some (.int .i64 n) := cell1 ((by exact e2))
  refine ⟨s, t, n, ?_, ?_, ht, hn⟩
  · congr 1
    apply Array.ext'
    apply List.ext_getElem?
    intro i
    match i with
    | 0 => rw [c0]; rfl
    | 1 => rw [c1]; rfl
    | 2 => rw [c2]; rfl
    | i + 3 =>
      rw [List.getElem?_eq_none (by simp; omega), List.getElem?_eq_none (by simp)]
  · rw [show y = _ from hx, g0, g1, g2]

/-- What the row's list gives: the table of tens. -/
theorem tens_eq : (Rows.laid_internal_strconv_uint64pow10 : DataW Unit) = Lib.tabData .u64 Lib.pow10Tab := by kernel_rfl
theorem tens_type : (Tryz.prog.globals[0]?).map (·.type) = some 76 := by kernel_rfl
theorem tabW {W : World} (h : laidMetH Tryz.prog [("math/bits.deBruijn32tab", Rows.laid_math_bits_deBruijn32tab), ("math/bits.deBruijn64tab", Rows.laid_math_bits_deBruijn64tab), ("internal/strconv.uint64pow10", Rows.laid_internal_strconv_uint64pow10)] W) : TabW W := by
  have h1 : laidMet Tryz.prog [("math/bits.deBruijn32tab", Rows.laid_math_bits_deBruijn32tab), ("math/bits.deBruijn64tab", Rows.laid_math_bits_deBruijn64tab), ("internal/strconv.uint64pow10", Rows.laid_internal_strconv_uint64pow10)] W := h
  have h2 := laidMet.tail (laidMet.tail h1)
  rw [tens_eq] at h2
  have h3 : Lib.TabIs Tryz.prog W "internal/strconv.uint64pow10" .u64 Lib.pow10Tab := Lib.tabIs_of_head tab_named tens_type Tryz.underlying76 Tryz.underlying67 (by kernel_rfl) (by kernel_rfl) h2
  refine ⟨?_, h3⟩
  have hc := h3.cell tab_named 0 (by decide)
  rcases Nat.lt_or_ge 0 W.heap.size with h' | h'
  · exact h'
  · simp [World.cell?, Array.getElem?_eq_none h'] at hc

/-- The cells of laid data. -/
def litCells : DataW Unit → Array Value
  | .agg l => (l.map fun
    | .lit (.int k n) => Value.int k n
    | _ => .bool false).toArray
  | _ => #[]
/-- A block's cells anew. -/
def putCells (cs : Array Value) : Obj → Obj
  | .cells _ t frozen => .cells cs t frozen
  | o => o
/-- A world for the witness: the settled one, the three tables as they are laid. -/
noncomputable def laidWorld (os : Os) : World :=
  { World.holding Tryz.prog os ⟨#[], #[], []⟩ with
    heap := (((World.holding Tryz.prog os ⟨#[], #[], []⟩).heap.modify 1 (putCells (litCells Rows.laid_math_bits_deBruijn32tab))).modify 2 (putCells (litCells Rows.laid_math_bits_deBruijn64tab))).modify 0 (putCells (litCells Rows.laid_internal_strconv_uint64pow10)) }
theorem laid_met (os : Os) (args : Array Value) : laidMet Tryz.prog [("math/bits.deBruijn32tab", Rows.laid_math_bits_deBruijn32tab), ("math/bits.deBruijn64tab", Rows.laid_math_bits_deBruijn64tab), ("internal/strconv.uint64pow10", Rows.laid_internal_strconv_uint64pow10)] ((laidWorld os).forCall (fun _ _ => 0) ⟨#[], args, []⟩).memory :=
  laidMet_of_run' 8 (by kernel_rfl) (by kernel_rfl)
theorem text_bulk {H : Type} (s : Bool) (t : ByteArray) (n : Int) {l : List (DataW H)} (h : (DataW.agg [.lit (.bool s), .lit (.string t.data.toList), .lit (.int .i64 n)] : DataW H) ∈ l) (hk : Rows.uptoBulkAll l ≤ 1048576) : t.size ≤ 1048576 := by
  induction l with
  | nil => cases h
  | cons x r ih =>
    simp only [Rows.uptoBulkAll] at hk
    rcases List.mem_cons.1 h with e | e
    · subst e
      simp only [Rows.uptoBulk, Rows.uptoBulkAll] at hk
      have : t.data.toList.length = t.size := by simp
      omega
    · exact ih e (by omega)
theorem string_bulk {H : Type} (t : ByteArray) {l : List (DataW H)} (h : (.lit (.string t.data.toList) : DataW H) ∈ l) (hk : Rows.uptoBulkAll l ≤ 1048576) : t.size ≤ 1048576 := by
  induction l with
  | nil => cases h
  | cons x r ih =>
    simp only [Rows.uptoBulkAll] at hk
    rcases List.mem_cons.1 h with e | e
    · subst e
      simp only [Rows.uptoBulk] at hk
      have : t.data.toList.length = t.size := by simp
      omega
    · exact ih e (by omega)
end Go.Proofs.YtogobiijmdgfdaaGreatDoor.V
