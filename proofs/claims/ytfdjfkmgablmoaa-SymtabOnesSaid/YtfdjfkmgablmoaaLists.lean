/- What the laws of package symtab ask of the lists that tables are: plain facts. No condition. -/
import Derived.Test.YtfdjfkmgablmoaaMeth
namespace Go.Proofs.Ytfdjfkmgablmoaa.Tab
open Go.RowKit Go.Maps Go.Proofs.YtfdjfkmgablmoaaW.PrintWords Go.Proofs.Ytfdjfkmgablmoaa.PSymtabPlays

/-- The table behind so many values. -/
def tabL (l : List S29) : List S29 := l.foldl putL []
theorem tabL_snoc (l : List S29) (x : S29) : tabL (l ++ [x]) = putL (tabL l) x := by simp [tabL]
theorem tabL_take {l : List S29} {k : Nat} (h : k < l.length) : tabL (l.take (k + 1)) = putL (tabL (l.take k)) (rd_T29 l (k : Int)) := by
  rw [List.take_succ_eq_append_getElem h, tabL_snoc]
  simp [rd_T29, List.getD_eq_getElem?_getD, h]
theorem putL_len (L : List S29) (x : S29) : L.length ≤ (putL L x).length ∧ (putL L x).length ≤ L.length + 1 := by
  unfold putL
  split <;> simp
theorem tabL_len (l : List S29) (k : Nat) : (tabL (l.take k)).length ≤ k := by
  induction k with
  | zero => simp [tabL]
  | succ k ih =>
    rcases Nat.lt_or_ge k l.length with h | h
    · rw [tabL_take h]
      have := putL_len (tabL (l.take k)) (rd_T29 l (k : Int))
      omega
    · rw [List.take_of_length_le (by omega)]
      rw [List.take_of_length_le h] at ih
      omega
theorem idxOf_lt {L : List S29} {x : S29} (h : x ∈ L) : L.idxOf x < L.length := List.idxOf_lt_length_of_mem h
theorem ok_of {l : List S29} (hl : ∀ x ∈ l, Ok x) {k : Nat} (h : k < l.length) : Ok (rd_T29 l (k : Int)) := by
  have : rd_T29 l (k : Int) = l[k] := by simp [rd_T29, List.getD_eq_getElem?_getD, h]
  rw [this]
  exact hl _ (List.getElem_mem h)

/-- The argument's cells. -/
theorem cells_at {w : World} {A : Option Addr} {l : List S29} (h : Kd.C k29 w A l.length l) {k : Nat} (hk : k < l.length) : ∃ ad, A = some ad ∧ w.cell? (ad.add (k * 3)) = some (.bool (rd_T29 l (k : Int)).f0) ∧ w.cell? ⟨(ad.add (k * 3)).block, (ad.add (k * 3)).off + 1, none⟩ = some (.string (rd_T29 l (k : Int)).f1) ∧ w.cell? ⟨(ad.add (k * 3)).block, (ad.add (k * 3)).off + 2, none⟩ = some (.int .i64 (rd_T29 l (k : Int)).f2) := by
  have := at_T29 h (k : Int) (by omega) (by omega)
  simpa using this

/-- Any block may be the table's. -/
abbrev any : Nat → Prop := fun _ => True
theorem find_yes {w : World} {base tb : Nat} {L : List S29} {x : S29} (hT : IsTab w base any tb L) (hx : Ok x) (hm : norm x ∈ L) {j : Nat} (hj : j = L.idxOf (norm x)) :
    Calls Try.prog 14 #[.pointer (some ⟨tb, 0, none⟩), .agg #[.bool x.f0, .string x.f1, .int .i64 x.f2]] w fun e w' => e = .returned (.tuple #[.int .i64 (j : Nat), .bool true]) ∧ Below w.heap.size w w' := by
  have := find_any base any tb L x w hT hx
  rw [decide_eq_true hm] at this
  unfold idx at this
  rw [if_pos hm, ← hj] at this
  exact this
theorem find_no {w : World} {base tb : Nat} {L : List S29} {x : S29} (hT : IsTab w base any tb L) (hx : Ok x) (hm : norm x ∉ L) :
    Calls Try.prog 14 #[.pointer (some ⟨tb, 0, none⟩), .agg #[.bool x.f0, .string x.f1, .int .i64 x.f2]] w fun e w' => e = .returned (.tuple #[.int .i64 0, .bool false]) ∧ Below w.heap.size w w' := by
  have := find_any base any tb L x w hT hx
  rw [decide_eq_false hm] at this
  unfold idx at this
  rw [if_neg hm] at this
  exact this
/-- .. put: j is the number, L' the list behind. -/
theorem put_to (w0 : World) {w : World} {base tb : Nat} {L L' : List S29} {x : S29} (hT : IsTab w base any tb L) (hB : Below base w0 w) (hbase : base ≤ w.heap.size) (hx : Ok x) (hl : L.length ≤ 1048576) {j : Nat} (hj : j = L.idxOf (norm x)) (hL : L' = putL L x) :
    Calls Try.prog 10 #[.pointer (some ⟨tb, 0, none⟩), .agg #[.bool x.f0, .string x.f1, .int .i64 x.f2]] w fun e w' => e = .returned (.int .i64 (j : Nat)) ∧ IsTab w' base any tb L' ∧ Below base w0 w' ∧ KeepT w w' := by
  refine (put_any w0 base any tb L x w hT hB hbase hx hl).mono ?_
  rintro e w' ⟨rfl, h1, h2, h3, _⟩
  subst hj hL
  exact ⟨rfl, h1.mono (fun _ _ => trivial), h2, h3⟩

/-- The number of the value at place j, as it was told. -/
def numAt (l : List S29) (j : Nat) : Nat := (tabL (l.take j)).idxOf (norm (rd_T29 l (j : Int)))
def numsL (l : List S29) (k : Nat) : List Int := (List.range k).map fun j => ((numAt l j : Nat) : Int)
theorem numsL_succ (l : List S29) (k : Nat) : numsL l (k + 1) = numsL l k ++ [((numAt l k : Nat) : Int)] := by simp [numsL, List.range_succ]
theorem numsL_len (l : List S29) (k : Nat) : (numsL l k).length = k := by simp [numsL]
theorem numsL_at {l : List S29} {k j : Nat} (h : j < k) : (numsL l k).getD j 0 = ((numAt l j : Nat) : Int) := by simp [numsL, List.getD_eq_getElem?_getD, h]
theorem putL_old {L : List S29} {x y : S29} (h : x ∈ L) : (putL L y).idxOf x = L.idxOf x ∧ x ∈ putL L y := by
  unfold putL
  split
  · exact ⟨rfl, h⟩
  · exact ⟨by rw [List.idxOf_append, if_pos h], by simp [h]⟩
theorem putL_new (L : List S29) (x : S29) : (putL L x).idxOf (norm x) = L.idxOf (norm x) ∧ norm x ∈ putL L x := by
  unfold putL
  split
  · rename_i h
    exact ⟨rfl, h⟩
  · rename_i h
    refine ⟨?_, by simp⟩
    rw [List.idxOf_append, if_neg h, List.idxOf_eq_length h]
    simp
theorem fold_old (M : List S29) : ∀ {L : List S29} {x : S29}, x ∈ L → (M.foldl putL L).idxOf x = L.idxOf x ∧ x ∈ M.foldl putL L := by
  induction M with
  | nil => intro L x h; exact ⟨rfl, h⟩
  | cons y M ih =>
    intro L x h
    obtain ⟨h1, h2⟩ := putL_old (y := y) h
    obtain ⟨h3, h4⟩ := ih h2
    exact ⟨h3.trans h1, h4⟩
theorem numAt_stays {l : List S29} {j K : Nat} (hj : j < K) (hl : j < l.length) : (tabL (l.take K)).idxOf (norm (rd_T29 l (j : Int))) = numAt l j ∧ norm (rd_T29 l (j : Int)) ∈ tabL (l.take K) := by
  have e : l.take K = l.take (j + 1) ++ (l.drop (j + 1)).take (K - (j + 1)) := by
    have : K = (j + 1) + (K - (j + 1)) := by omega
    conv => lhs; rw [this, List.take_add]
  obtain ⟨h1, h2⟩ := putL_new (tabL (l.take j)) (rd_T29 l (j : Int))
  rw [← tabL_take hl] at h1 h2
  obtain ⟨h3, h4⟩ := fold_old ((l.drop (j + 1)).take (K - (j + 1))) h2
  have e2 : tabL (l.take K) = ((l.drop (j + 1)).take (K - (j + 1))).foldl putL (tabL (l.take (j + 1))) := by rw [e, tabL, List.foldl_append]; rfl
  rw [e2]
  exact ⟨h3.trans h1, h4⟩
/-- .. and so many values more. -/
def moreL (L m : List S29) (k : Nat) : List S29 := (m.take k).foldl putL L
theorem moreL_succ {L m : List S29} {k : Nat} (h : k < m.length) : moreL L m (k + 1) = putL (moreL L m k) (rd_T29 m (k : Int)) := by
  unfold moreL
  rw [List.take_succ_eq_append_getElem h, List.foldl_append]
  simp [rd_T29, List.getD_eq_getElem?_getD, h]
theorem moreL_len (L m : List S29) (k : Nat) : (moreL L m k).length ≤ L.length + k := by
  induction k with
  | zero => simp [moreL]
  | succ k ih =>
    rcases Nat.lt_or_ge k m.length with h | h
    · rw [moreL_succ h]
      have := putL_len (moreL L m k) (rd_T29 m (k : Int))
      omega
    · unfold moreL at ih ⊢
      rw [List.take_of_length_le (by omega)]
      rw [List.take_of_length_le h] at ih
      omega
theorem moreL_stays {L m : List S29} {k : Nat} {x : S29} (h : x ∈ L) : (moreL L m k).idxOf x = L.idxOf x ∧ x ∈ moreL L m k := fold_old _ h

theorem nums_keep {w w' : World} {base : Nat} {v : Value} {n : Nat} {xs : List Value} (h : w.ownsRow base 3 1 v n xs) (hk : KeepT w w') : w'.ownsRow base 3 1 v n xs :=
  own_move h (fun k e => by
    obtain ⟨cells, hc⟩ := own_typed h k e
    exact hk.2 k cells 3 hc (by decide) (by decide))
theorem tab_keep {w w1 : World} {base base' tb : Nat} {L : List S29} {v : Value} {n : Nat} {xs : List Value} (hT : IsTab w base any tb L) (h : w.ownsRow base' 3 1 v n xs) (hg : w.grownBy w1 v.ownBlock) : IsTab w1 base any tb L := by
  have hk : Kept w w1 (fun k => v.ownBlock = some k) := ⟨hg.size, fun i hi hn => hg.block i hi (fun e => hn e.symm)⟩
  refine (hT.bound.kept hk (fun k hb e => ?_)).mono (fun _ _ => trivial)
  obtain ⟨cells, hc⟩ := own_typed h k e
  rcases hb.2.2.2 cells 3 hc with h | h
  · exact absurd h (by decide)
  · exact absurd h (by decide)
theorem infoI : (Try.prog.info? 3).map (fun i => (i.zero, i.size, i.bytes)) = some (some (.int .i64 0), 1, 8) := by kernel_rfl
end Go.Proofs.Ytfdjfkmgablmoaa.Tab
