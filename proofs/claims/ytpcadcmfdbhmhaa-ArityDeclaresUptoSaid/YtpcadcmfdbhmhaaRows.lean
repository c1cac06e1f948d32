/-
  No cell of these rows narrows 'for every input' (looked for: loops, veiled, ifaces, maps, wideKeys, modest, calm, conditions, laid).
  DERIVED. THE GIVEN ROWS OF THIS SEAT. 5 by the template 'for every input the law returns true; each argument reads behind the call as it read before'; 0 by the template 'total and deterministic' (their statements: YtpcadcmfdbhmhaaTotals.lean).
  GIVEN WITH THE SEED: the statements are not yours to turn. If you find one false, say at which input.
  Laid BY PROGRAM, IN A SANDBOX (cutbox-rows.mjs): the forced cells as the released guide's own fill.sh prints them over the translation ee390c1bc6968685… (all of the seat's roots in one cut). By AI agents, Wed Nov 11 2026. No macro, syntax, notation, axiom, sorry.
-/
import Derived.Test.YtpcadcmfdbhmhaaChecked
import GoSem.Claim
import GoSem.ClaimJoined
import GoSem.ClaimMapViews
import Derived.JoinedTies
import Derived.KernelRfl
namespace Go.Proofs.Ytpcadcmfdbhmhaa
/- THE CELL 'sum', in the pinned program and in every row, IS THE sha256 OF THE DUMP (.gsa) THAT YtpcadcmfdbhmhaaProg.lean LOADS. Nothing in Lean hashes anything: it is a label: what it is worth is what the hold of that sum in a sandbox is worth. -/
noncomputable def Try.pinned : Pinned := { name := "ytpcadcmfdbhmhaa", sum := "ee390c1bc69686855abac34a0c2ec9e6431d32a70ffda29992d21e490fbec859", checked := Try.checked }
namespace Rows
def none {H : Type} : Left H := { results := [], args := [] }

/-- 'lambrequinlaw08.ArityTells': WHATEVER THE INPUT: true; the input reads as it did. -/
def arityTellsSpec : ChangeSpec := { name := "arityTells", fn := fun _ => fun
  | [d1, d2, d3] => { results := [.lit (.bool true)], args := [d1, d2, d3] }
  | _ => none }
def arityTellsRow : OpenClaim := { program := "ytpcadcmfdbhmhaa", sum := "ee390c1bc69686855abac34a0c2ec9e6431d32a70ffda29992d21e490fbec859", func := "lambrequin/lambrequinlaw08.ArityTells", spec := "arityTells", unfollowed := true, recurses := true, apart := false }
def ArityTellsSaid : Prop := arityTellsRow.holds Try.pinned (OpenSpec.ofChange arityTellsSpec)

/-- ITS FALSE NEIGHBOUR: 'it returns false'. Refute it at one input. -/
def arityTellsWrong : ChangeSpec := { name := "arityTells", fn := fun _ => fun
  | [d1, d2, d3] => { results := [.lit (.bool false)], args := [d1, d2, d3] }
  | _ => none }
def ArityTellsWrongFalsely : Prop := arityTellsRow.holds Try.pinned (OpenSpec.ofChange arityTellsWrong)

/-- 'lambrequinlaw08.ArityAgrees': WHATEVER THE INPUT: true; the input reads as it did. -/
def arityAgreesSpec : ChangeSpec := { name := "arityAgrees", fn := fun _ => fun
  | [d] => { results := [.lit (.bool true)], args := [d] }
  | _ => none }
def arityAgreesRow : OpenClaim := { program := "ytpcadcmfdbhmhaa", sum := "ee390c1bc69686855abac34a0c2ec9e6431d32a70ffda29992d21e490fbec859", func := "lambrequin/lambrequinlaw08.ArityAgrees", spec := "arityAgrees", unfollowed := true, recurses := true, apart := false }
def ArityAgreesSaid : Prop := arityAgreesRow.holds Try.pinned (OpenSpec.ofChange arityAgreesSpec)

/-- ITS FALSE NEIGHBOUR: 'it returns false'. Refute it at one input. -/
def arityAgreesWrong : ChangeSpec := { name := "arityAgrees", fn := fun _ => fun
  | [d] => { results := [.lit (.bool false)], args := [d] }
  | _ => none }
def ArityAgreesWrongFalsely : Prop := arityAgreesRow.holds Try.pinned (OpenSpec.ofChange arityAgreesWrong)

/-- 'lambrequinlaw08.ArityOrder': WHATEVER THE INPUT: true; the input reads as it did. -/
def arityOrderSpec : ChangeSpec := { name := "arityOrder", fn := fun _ => fun
  | [d1, d2] => { results := [.lit (.bool true)], args := [d1, d2] }
  | _ => none }
def arityOrderRow : OpenClaim := { program := "ytpcadcmfdbhmhaa", sum := "ee390c1bc69686855abac34a0c2ec9e6431d32a70ffda29992d21e490fbec859", func := "lambrequin/lambrequinlaw08.ArityOrder", spec := "arityOrder", unfollowed := true, recurses := true, apart := false }
def ArityOrderSaid : Prop := arityOrderRow.holds Try.pinned (OpenSpec.ofChange arityOrderSpec)

/-- ITS FALSE NEIGHBOUR: 'it returns false'. Refute it at one input. -/
def arityOrderWrong : ChangeSpec := { name := "arityOrder", fn := fun _ => fun
  | [d1, d2] => { results := [.lit (.bool false)], args := [d1, d2] }
  | _ => none }
def ArityOrderWrongFalsely : Prop := arityOrderRow.holds Try.pinned (OpenSpec.ofChange arityOrderWrong)

/-- 'lambrequinlaw08.ArityDeclares': WHATEVER THE INPUT: true; the input reads as it did. -/
def arityDeclaresSpec : ChangeSpec := { name := "arityDeclares", fn := fun _ => fun
  | [d1, d2] => { results := [.lit (.bool true)], args := [d1, d2] }
  | _ => none }
def arityDeclaresRow : OpenClaim := { program := "ytpcadcmfdbhmhaa", sum := "ee390c1bc69686855abac34a0c2ec9e6431d32a70ffda29992d21e490fbec859", func := "lambrequin/lambrequinlaw08.ArityDeclares", spec := "arityDeclares", unfollowed := true, recurses := true, apart := false }
def ArityDeclaresSaid : Prop := arityDeclaresRow.holds Try.pinned (OpenSpec.ofChange arityDeclaresSpec)

/-- ITS FALSE NEIGHBOUR: 'it returns false'. Refute it at one input. -/
def arityDeclaresWrong : ChangeSpec := { name := "arityDeclares", fn := fun _ => fun
  | [d1, d2] => { results := [.lit (.bool false)], args := [d1, d2] }
  | _ => none }
def ArityDeclaresWrongFalsely : Prop := arityDeclaresRow.holds Try.pinned (OpenSpec.ofChange arityDeclaresWrong)

/-- 'lambrequinlaw08.ArityFirst': WHATEVER THE INPUT: true; the input reads as it did. -/
def arityFirstSpec : ChangeSpec := { name := "arityFirst", fn := fun _ => fun
  | [d1, d2] => { results := [.lit (.bool true)], args := [d1, d2] }
  | _ => none }
def arityFirstRow : OpenClaim := { program := "ytpcadcmfdbhmhaa", sum := "ee390c1bc69686855abac34a0c2ec9e6431d32a70ffda29992d21e490fbec859", func := "lambrequin/lambrequinlaw08.ArityFirst", spec := "arityFirst", unfollowed := true, recurses := true, apart := false }
def ArityFirstSaid : Prop := arityFirstRow.holds Try.pinned (OpenSpec.ofChange arityFirstSpec)

/-- ITS FALSE NEIGHBOUR: 'it returns false'. Refute it at one input. -/
def arityFirstWrong : ChangeSpec := { name := "arityFirst", fn := fun _ => fun
  | [d1, d2] => { results := [.lit (.bool false)], args := [d1, d2] }
  | _ => none }
def ArityFirstWrongFalsely : Prop := arityFirstRow.holds Try.pinned (OpenSpec.ofChange arityFirstWrong)

/- THE SECOND FORM. 'bulk': how many values and letters a reading holds, each counted each time it is reached (what is shared counts as often as it is met; a slice's spare places count too). A statement '..UptoSaid' is the law's where the arguments, and the package variables that the reading takes, are together of bulk at most 1048576: NARROWER than '..Said'. Prove '..Said' where nothing that the law and all that it calls make is longer than what came in: it says more and counts as full. Else prove '..UptoSaid'. A law counts once. -/
mutual
def uptoBulk {H : Type} : DataW H → Nat
  | .lit (.string bytes) => bytes.length + 1
  | .lit _ => 1
  | .nil => 1
  | .ptr d => uptoBulk d + 1
  | .slice elems spare => uptoBulkAll elems + uptoBulkAll spare + 1
  | .agg parts => uptoBulkAll parts + 1
  | .iface _ d => uptoBulk d + 1
  | .map entries => uptoBulkEntries entries + 1
  | .held _ => 1
def uptoBulkAll {H : Type} : List (DataW H) → Nat
  | [] => 0
  | d :: r => uptoBulk d + uptoBulkAll r
def uptoBulkEntries {H : Type} : List (Lit × DataW H) → Nat
  | [] => 0
  | x :: r => uptoBulkEntry x + uptoBulkEntries r
def uptoBulkEntry {H : Type} : Lit × DataW H → Nat
  | (.string bytes, d) => bytes.length + uptoBulk d + 1
  | (_, d) => uptoBulk d + 1
 end
def uptoSmall : (H : Type) → List (DataW H) → Bool := fun _ ds => decide (uptoBulkAll ds ≤ 1048576)
def OpenSpec.upto (s : _root_.Go.ChangeSpec) : _root_.Go.OpenSpec := { _root_.Go.OpenSpec.ofChange s with cond := some uptoSmall }

/-- 'lambrequinlaw08.ArityTells', WHERE WHAT IT READS IS OF BULK AT MOST 1048576: true; the input reads as it did. -/
def arityTellsUptoRow : OpenClaim := { program := "ytpcadcmfdbhmhaa", sum := "ee390c1bc69686855abac34a0c2ec9e6431d32a70ffda29992d21e490fbec859", func := "lambrequin/lambrequinlaw08.ArityTells", spec := "arityTells", unfollowed := true, recurses := true, apart := false, narrowed := true }
def ArityTellsUptoSaid : Prop := arityTellsUptoRow.holds Try.pinned (OpenSpec.upto arityTellsSpec)

/-- 'lambrequinlaw08.ArityAgrees', WHERE WHAT IT READS IS OF BULK AT MOST 1048576: true; the input reads as it did. -/
def arityAgreesUptoRow : OpenClaim := { program := "ytpcadcmfdbhmhaa", sum := "ee390c1bc69686855abac34a0c2ec9e6431d32a70ffda29992d21e490fbec859", func := "lambrequin/lambrequinlaw08.ArityAgrees", spec := "arityAgrees", unfollowed := true, recurses := true, apart := false, narrowed := true }
def ArityAgreesUptoSaid : Prop := arityAgreesUptoRow.holds Try.pinned (OpenSpec.upto arityAgreesSpec)

/-- 'lambrequinlaw08.ArityOrder', WHERE WHAT IT READS IS OF BULK AT MOST 1048576: true; the input reads as it did. -/
def arityOrderUptoRow : OpenClaim := { program := "ytpcadcmfdbhmhaa", sum := "ee390c1bc69686855abac34a0c2ec9e6431d32a70ffda29992d21e490fbec859", func := "lambrequin/lambrequinlaw08.ArityOrder", spec := "arityOrder", unfollowed := true, recurses := true, apart := false, narrowed := true }
def ArityOrderUptoSaid : Prop := arityOrderUptoRow.holds Try.pinned (OpenSpec.upto arityOrderSpec)

/-- 'lambrequinlaw08.ArityDeclares', WHERE WHAT IT READS IS OF BULK AT MOST 1048576: true; the input reads as it did. -/
def arityDeclaresUptoRow : OpenClaim := { program := "ytpcadcmfdbhmhaa", sum := "ee390c1bc69686855abac34a0c2ec9e6431d32a70ffda29992d21e490fbec859", func := "lambrequin/lambrequinlaw08.ArityDeclares", spec := "arityDeclares", unfollowed := true, recurses := true, apart := false, narrowed := true }
def ArityDeclaresUptoSaid : Prop := arityDeclaresUptoRow.holds Try.pinned (OpenSpec.upto arityDeclaresSpec)

/-- 'lambrequinlaw08.ArityFirst', WHERE WHAT IT READS IS OF BULK AT MOST 1048576: true; the input reads as it did. -/
def arityFirstUptoRow : OpenClaim := { program := "ytpcadcmfdbhmhaa", sum := "ee390c1bc69686855abac34a0c2ec9e6431d32a70ffda29992d21e490fbec859", func := "lambrequin/lambrequinlaw08.ArityFirst", spec := "arityFirst", unfollowed := true, recurses := true, apart := false, narrowed := true }
def ArityFirstUptoSaid : Prop := arityFirstUptoRow.holds Try.pinned (OpenSpec.upto arityFirstSpec)

end Rows
end Go.Proofs.Ytpcadcmfdbhmhaa
