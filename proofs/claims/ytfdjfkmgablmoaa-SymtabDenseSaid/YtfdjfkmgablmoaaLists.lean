/- What the laws of package symtab ask of the lists that tables are: plain facts. No condition. -/
import Derived.Test.YtfdjfkmgablmoaaMeth
namespace Go.Proofs.Ytfdjfkmgablmoaa.Tab
open Go.RowKit Go.Maps Go.Proofs.YtfdjfkmgablmoaaW.PrintWords Go.Proofs.Ytfdjfkmgablmoaa.PSymtabPlays

/-- The table behind so many values. -/
def tabL (l : List S29) : List S29 := l.foldl putL []
theorem tabL_snoc (l : List S29) (x : S29) : tabL (l ++ [x]) = putL (tabL l) x := by simp [tabL]
theorem tabL_take {l : List S29} {k : Nat} (h : k < l.length) : tabL (l.take (k + 1)) = putL (tabL (l.take k)) (rd_T29 l (k : Int)) := by
  rw [List.take_succ_eq_append_getElem h, tabL_snoc]
  simp [rd_T29, List.getD_eq_getElem?_getD, h]
theorem putL_len (L : List S29) (x : S29) : L.length ≤ (putL L x).length ∧ (putL L x).length ≤ L.length + 1 := by
  unfold putL
  split <;> simp
theorem tabL_len (l : List S29) (k : Nat) : (tabL (l.take k)).length ≤ k := by
  induction k with
  | zero => simp [tabL]
  | succ k ih =>
    rcases Nat.lt_or_ge k l.length with h | h
    · rw [tabL_take h]
      have := putL_len (tabL (l.take k)) (rd_T29 l (k : Int))
      omega
    · rw [List.take_of_length_le (by omega)]
      rw [List.take_of_length_le h] at ih
      omega
theorem idxOf_lt {L : List S29} {x : S29} (h : x ∈ L) : L.idxOf x < L.length := List.idxOf_lt_length_of_mem h
theorem ok_of {l : List S29} (hl : ∀ x ∈ l, Ok x) {k : Nat} (h : k < l.length) : Ok (rd_T29 l (k : Int)) := by
  have : rd_T29 l (k : Int) = l[k] := by simp [rd_T29, List.getD_eq_getElem?_getD, h]
  rw [this]
  exact hl _ (List.getElem_mem h)

/-- The argument's cells. -/
theorem cells_at {w : World} {A : Option Addr} {l : List S29} (h : Kd.C k29 w A l.length l) {k : Nat} (hk : k < l.length) : ∃ ad, A = some ad ∧ w.cell? (ad.add (k * 3)) = some (.bool (rd_T29 l (k : Int)).f0) ∧ w.cell? ⟨(ad.add (k * 3)).block, (ad.add (k * 3)).off + 1, none⟩ = some (.string (rd_T29 l (k : Int)).f1) ∧ w.cell? ⟨(ad.add (k * 3)).block, (ad.add (k * 3)).off + 2, none⟩ = some (.int .i64 (rd_T29 l (k : Int)).f2) := by
  have := at_T29 h (k : Int) (by omega) (by omega)
  simpa using this

/-- Any block may be the table's. -/
abbrev any : Nat → Prop := fun _ => True
theorem find_yes {w : World} {base tb : Nat} {L : List S29} {x : S29} (hT : IsTab w base any tb L) (hx : Ok x) (hm : norm x ∈ L) {j : Nat} (hj : j = L.idxOf (norm x)) :
    Calls Try.prog 14 #[.pointer (some ⟨tb, 0, none⟩), .agg #[.bool x.f0, .string x.f1, .int .i64 x.f2]] w fun e w' => e = .returned (.tuple #[.int .i64 (j : Nat), .bool true]) ∧ Below w.heap.size w w' := by
  have := find_any base any tb L x w hT hx
  rw [decide_eq_true hm] at this
  unfold idx at this
  rw [if_pos hm, ← hj] at this
  exact this
theorem find_no {w : World} {base tb : Nat} {L : List S29} {x : S29} (hT : IsTab w base any tb L) (hx : Ok x) (hm : norm x ∉ L) :
    Calls Try.prog 14 #[.pointer (some ⟨tb, 0, none⟩), .agg #[.bool x.f0, .string x.f1, .int .i64 x.f2]] w fun e w' => e = .returned (.tuple #[.int .i64 0, .bool false]) ∧ Below w.heap.size w w' := by
  have := find_any base any tb L x w hT hx
  rw [decide_eq_false hm] at this
  unfold idx at this
  rw [if_neg hm] at this
  exact this
/-- .. put: j is the number, L' the list behind. -/
theorem put_to (w0 : World) {w : World} {base tb : Nat} {L L' : List S29} {x : S29} (hT : IsTab w base any tb L) (hB : Below base w0 w) (hbase : base ≤ w.heap.size) (hx : Ok x) (hl : L.length ≤ 1048576) {j : Nat} (hj : j = L.idxOf (norm x)) (hL : L' = putL L x) :
    Calls Try.prog 10 #[.pointer (some ⟨tb, 0, none⟩), .agg #[.bool x.f0, .string x.f1, .int .i64 x.f2]] w fun e w' => e = .returned (.int .i64 (j : Nat)) ∧ IsTab w' base any tb L' ∧ Below base w0 w' ∧ KeepT w w' := by
  refine (put_any w0 base any tb L x w hT hB hbase hx hl).mono ?_
  rintro e w' ⟨rfl, h1, h2, h3, _⟩
  subst hj hL
  exact ⟨rfl, h1.mono (fun _ _ => trivial), h2, h3⟩
end Go.Proofs.Ytfdjfkmgablmoaa.Tab
