/-
  No cell of these rows narrows 'for every input' (looked for: loops, veiled, ifaces, maps, wideKeys, modest, calm, conditions, laid).
  DERIVED. THE GIVEN ROWS OF THIS SEAT. 5 by the template 'for every input the law returns true; each argument reads behind the call as it read before'; 0 by the template 'total and deterministic' (their statements: YtfdjfkmgablmoaaTotals.lean).
  GIVEN WITH THE SEED: the statements are not yours to turn. If you find one false, say at which input.
  Laid BY PROGRAM, IN A SANDBOX (cutbox-rows.mjs): the forced cells as the released guide's own fill.sh prints them over the translation cb9017c53c270bd9… (all of the seat's roots in one cut). By AI agents, Wed Nov 11 2026. No macro, syntax, notation, axiom, sorry.
-/
import Derived.Test.YtfdjfkmgablmoaaChecked
import GoSem.Claim
import GoSem.ClaimJoined
import GoSem.ClaimMapViews
import Derived.JoinedTies
import Derived.KernelRfl
namespace Go.Proofs.Ytfdjfkmgablmoaa
/- THE CELL 'sum', in the pinned program and in every row, IS THE sha256 OF THE DUMP (.gsa) THAT YtfdjfkmgablmoaaProg.lean LOADS. Nothing in Lean hashes anything: it is a label: what it is worth is what the hold of that sum in a sandbox is worth. -/
noncomputable def Try.pinned : Pinned := { name := "ytfdjfkmgablmoaa", sum := "cb9017c53c270bd9ce891e054ddc304f5a53e144b1fb50c88e140bc0545e0b90", checked := Try.checked }
namespace Rows
def none {H : Type} : Left H := { results := [], args := [] }

/-- 'lambrequinlaw02.SymtabOnes': WHATEVER THE INPUT: true; the input reads as it did. -/
def symtabOnesSpec : ChangeSpec := { name := "symtabOnes", fn := fun _ => fun
  | [d] => { results := [.lit (.bool true)], args := [d] }
  | _ => none }
def symtabOnesRow : OpenClaim := { program := "ytfdjfkmgablmoaa", sum := "cb9017c53c270bd9ce891e054ddc304f5a53e144b1fb50c88e140bc0545e0b90", func := "lambrequin/lambrequinlaw02.SymtabOnes", spec := "symtabOnes", plainKeys := false, apart := false }
def SymtabOnesSaid : Prop := symtabOnesRow.holds Try.pinned (OpenSpec.ofChange symtabOnesSpec)

/-- ITS FALSE NEIGHBOUR: 'it returns false'. Refute it at one input. -/
def symtabOnesWrong : ChangeSpec := { name := "symtabOnes", fn := fun _ => fun
  | [d] => { results := [.lit (.bool false)], args := [d] }
  | _ => none }
def SymtabOnesWrongFalsely : Prop := symtabOnesRow.holds Try.pinned (OpenSpec.ofChange symtabOnesWrong)

/-- 'lambrequinlaw02.SymtabKeeps': WHATEVER THE INPUT: true; the input reads as it did. -/
def symtabKeepsSpec : ChangeSpec := { name := "symtabKeeps", fn := fun _ => fun
  | [d1, d2, d3] => { results := [.lit (.bool true)], args := [d1, d2, d3] }
  | _ => none }
def symtabKeepsRow : OpenClaim := { program := "ytfdjfkmgablmoaa", sum := "cb9017c53c270bd9ce891e054ddc304f5a53e144b1fb50c88e140bc0545e0b90", func := "lambrequin/lambrequinlaw02.SymtabKeeps", spec := "symtabKeeps", plainKeys := false, apart := false }
def SymtabKeepsSaid : Prop := symtabKeepsRow.holds Try.pinned (OpenSpec.ofChange symtabKeepsSpec)

/-- ITS FALSE NEIGHBOUR: 'it returns false'. Refute it at one input. -/
def symtabKeepsWrong : ChangeSpec := { name := "symtabKeeps", fn := fun _ => fun
  | [d1, d2, d3] => { results := [.lit (.bool false)], args := [d1, d2, d3] }
  | _ => none }
def SymtabKeepsWrongFalsely : Prop := symtabKeepsRow.holds Try.pinned (OpenSpec.ofChange symtabKeepsWrong)

/-- 'lambrequinlaw02.SymtabPlays': WHATEVER THE INPUT: true; the input reads as it did. -/
def symtabPlaysSpec : ChangeSpec := { name := "symtabPlays", fn := fun _ => fun
  | [d1, d2, d3] => { results := [.lit (.bool true)], args := [d1, d2, d3] }
  | _ => none }
def symtabPlaysRow : OpenClaim := { program := "ytfdjfkmgablmoaa", sum := "cb9017c53c270bd9ce891e054ddc304f5a53e144b1fb50c88e140bc0545e0b90", func := "lambrequin/lambrequinlaw02.SymtabPlays", spec := "symtabPlays", plainKeys := false, apart := false }
def SymtabPlaysSaid : Prop := symtabPlaysRow.holds Try.pinned (OpenSpec.ofChange symtabPlaysSpec)

/-- ITS FALSE NEIGHBOUR: 'it returns false'. Refute it at one input. -/
def symtabPlaysWrong : ChangeSpec := { name := "symtabPlays", fn := fun _ => fun
  | [d1, d2, d3] => { results := [.lit (.bool false)], args := [d1, d2, d3] }
  | _ => none }
def SymtabPlaysWrongFalsely : Prop := symtabPlaysRow.holds Try.pinned (OpenSpec.ofChange symtabPlaysWrong)

/-- 'lambrequinlaw02.SymtabDense': WHATEVER THE INPUT: true; the input reads as it did. -/
def symtabDenseSpec : ChangeSpec := { name := "symtabDense", fn := fun _ => fun
  | [d] => { results := [.lit (.bool true)], args := [d] }
  | _ => none }
def symtabDenseRow : OpenClaim := { program := "ytfdjfkmgablmoaa", sum := "cb9017c53c270bd9ce891e054ddc304f5a53e144b1fb50c88e140bc0545e0b90", func := "lambrequin/lambrequinlaw02.SymtabDense", spec := "symtabDense", plainKeys := false, apart := false }
def SymtabDenseSaid : Prop := symtabDenseRow.holds Try.pinned (OpenSpec.ofChange symtabDenseSpec)

/-- ITS FALSE NEIGHBOUR: 'it returns false'. Refute it at one input. -/
def symtabDenseWrong : ChangeSpec := { name := "symtabDense", fn := fun _ => fun
  | [d] => { results := [.lit (.bool false)], args := [d] }
  | _ => none }
def SymtabDenseWrongFalsely : Prop := symtabDenseRow.holds Try.pinned (OpenSpec.ofChange symtabDenseWrong)

/-- 'lambrequinlaw02.SymtabNobody': WHATEVER THE INPUT: true; the input reads as it did. -/
def symtabNobodySpec : ChangeSpec := { name := "symtabNobody", fn := fun _ => fun
  | [d1, d2] => { results := [.lit (.bool true)], args := [d1, d2] }
  | _ => none }
def symtabNobodyRow : OpenClaim := { program := "ytfdjfkmgablmoaa", sum := "cb9017c53c270bd9ce891e054ddc304f5a53e144b1fb50c88e140bc0545e0b90", func := "lambrequin/lambrequinlaw02.SymtabNobody", spec := "symtabNobody", plainKeys := false, apart := false }
def SymtabNobodySaid : Prop := symtabNobodyRow.holds Try.pinned (OpenSpec.ofChange symtabNobodySpec)

/-- ITS FALSE NEIGHBOUR: 'it returns false'. Refute it at one input. -/
def symtabNobodyWrong : ChangeSpec := { name := "symtabNobody", fn := fun _ => fun
  | [d1, d2] => { results := [.lit (.bool false)], args := [d1, d2] }
  | _ => none }
def SymtabNobodyWrongFalsely : Prop := symtabNobodyRow.holds Try.pinned (OpenSpec.ofChange symtabNobodyWrong)

/- THE SECOND FORM. 'bulk': how many values and letters a reading holds, each counted each time it is reached (what is shared counts as often as it is met; a slice's spare places count too). A statement '..UptoSaid' is the law's where the arguments, and the package variables that the reading takes, are together of bulk at most 1048576: NARROWER than '..Said'. Prove '..Said' where nothing that the law and all that it calls make is longer than what came in: it says more and counts as full. Else prove '..UptoSaid'. A law counts once. -/
mutual
def uptoBulk {H : Type} : DataW H → Nat
  | .lit (.string bytes) => bytes.length + 1
  | .lit _ => 1
  | .nil => 1
  | .ptr d => uptoBulk d + 1
  | .slice elems spare => uptoBulkAll elems + uptoBulkAll spare + 1
  | .agg parts => uptoBulkAll parts + 1
  | .iface _ d => uptoBulk d + 1
  | .map entries => uptoBulkEntries entries + 1
  | .held _ => 1
def uptoBulkAll {H : Type} : List (DataW H) → Nat
  | [] => 0
  | d :: r => uptoBulk d + uptoBulkAll r
def uptoBulkEntries {H : Type} : List (Lit × DataW H) → Nat
  | [] => 0
  | x :: r => uptoBulkEntry x + uptoBulkEntries r
def uptoBulkEntry {H : Type} : Lit × DataW H → Nat
  | (.string bytes, d) => bytes.length + uptoBulk d + 1
  | (_, d) => uptoBulk d + 1
 end
def uptoSmall : (H : Type) → List (DataW H) → Bool := fun _ ds => decide (uptoBulkAll ds ≤ 1048576)
def OpenSpec.upto (s : _root_.Go.ChangeSpec) : _root_.Go.OpenSpec := { _root_.Go.OpenSpec.ofChange s with cond := some uptoSmall }

/-- 'lambrequinlaw02.SymtabOnes', WHERE WHAT IT READS IS OF BULK AT MOST 1048576: true; the input reads as it did. -/
def symtabOnesUptoRow : OpenClaim := { program := "ytfdjfkmgablmoaa", sum := "cb9017c53c270bd9ce891e054ddc304f5a53e144b1fb50c88e140bc0545e0b90", func := "lambrequin/lambrequinlaw02.SymtabOnes", spec := "symtabOnes", plainKeys := false, apart := false, narrowed := true }
def SymtabOnesUptoSaid : Prop := symtabOnesUptoRow.holds Try.pinned (OpenSpec.upto symtabOnesSpec)

/-- 'lambrequinlaw02.SymtabKeeps', WHERE WHAT IT READS IS OF BULK AT MOST 1048576: true; the input reads as it did. -/
def symtabKeepsUptoRow : OpenClaim := { program := "ytfdjfkmgablmoaa", sum := "cb9017c53c270bd9ce891e054ddc304f5a53e144b1fb50c88e140bc0545e0b90", func := "lambrequin/lambrequinlaw02.SymtabKeeps", spec := "symtabKeeps", plainKeys := false, apart := false, narrowed := true }
def SymtabKeepsUptoSaid : Prop := symtabKeepsUptoRow.holds Try.pinned (OpenSpec.upto symtabKeepsSpec)

/-- 'lambrequinlaw02.SymtabPlays', WHERE WHAT IT READS IS OF BULK AT MOST 1048576: true; the input reads as it did. -/
def symtabPlaysUptoRow : OpenClaim := { program := "ytfdjfkmgablmoaa", sum := "cb9017c53c270bd9ce891e054ddc304f5a53e144b1fb50c88e140bc0545e0b90", func := "lambrequin/lambrequinlaw02.SymtabPlays", spec := "symtabPlays", plainKeys := false, apart := false, narrowed := true }
def SymtabPlaysUptoSaid : Prop := symtabPlaysUptoRow.holds Try.pinned (OpenSpec.upto symtabPlaysSpec)

/-- 'lambrequinlaw02.SymtabDense', WHERE WHAT IT READS IS OF BULK AT MOST 1048576: true; the input reads as it did. -/
def symtabDenseUptoRow : OpenClaim := { program := "ytfdjfkmgablmoaa", sum := "cb9017c53c270bd9ce891e054ddc304f5a53e144b1fb50c88e140bc0545e0b90", func := "lambrequin/lambrequinlaw02.SymtabDense", spec := "symtabDense", plainKeys := false, apart := false, narrowed := true }
def SymtabDenseUptoSaid : Prop := symtabDenseUptoRow.holds Try.pinned (OpenSpec.upto symtabDenseSpec)

/-- 'lambrequinlaw02.SymtabNobody', WHERE WHAT IT READS IS OF BULK AT MOST 1048576: true; the input reads as it did. -/
def symtabNobodyUptoRow : OpenClaim := { program := "ytfdjfkmgablmoaa", sum := "cb9017c53c270bd9ce891e054ddc304f5a53e144b1fb50c88e140bc0545e0b90", func := "lambrequin/lambrequinlaw02.SymtabNobody", spec := "symtabNobody", plainKeys := false, apart := false, narrowed := true }
def SymtabNobodyUptoSaid : Prop := symtabNobodyUptoRow.holds Try.pinned (OpenSpec.upto symtabNobodySpec)

end Rows
end Go.Proofs.Ytfdjfkmgablmoaa
