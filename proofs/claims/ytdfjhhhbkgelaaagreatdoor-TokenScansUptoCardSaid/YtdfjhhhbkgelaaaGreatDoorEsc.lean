/- What value.Text's replacement comes to, byte by byte: plain laws. -/
import Derived.Lib.Strings
import Derived.Shelf.Strings.Count
import Derived.Laws.CopyOwn
namespace Go.Proofs.YtdfjhhhbkgelaaaGreatDoor.V
set_option linter.unusedSimpArgs false
set_option linter.unusedVariables false

def special (c : UInt8) : Bool := c == 10 || c == 39 || c == 92
def escB (c : UInt8) : List UInt8 := if c = 10 then [92, 110] else if c = 39 then [92, 39] else if c = 92 then [92, 92] else [c]
def escL (l : List UInt8) : List UInt8 := l.flatMap escB
theorem escB_plain {c : UInt8} (h : special c = false) : escB c = [c] := by
  unfold special at h
  simp only [Bool.or_eq_false_iff, beq_eq_false_iff_ne] at h
  simp [escB, h.1.1, h.1.2, h.2]
theorem escB_length {c : UInt8} : (escB c).length = if special c = true then 2 else 1 := by
  unfold escB special
  by_cases h1 : c = 10
  · simp [h1]
  · by_cases h2 : c = 39
    · simp [h2]
    · by_cases h3 : c = 92
      · simp [h3]
      · simp [h1, h2, h3]
theorem escL_none {l : List UInt8} (h : l.any special = false) : escL l = l := by
  induction l with
  | nil => rfl
  | cons c l ih =>
    rw [List.any_cons, Bool.or_eq_false_iff] at h
    rw [escL, List.flatMap_cons, escB_plain h.1]
    show c :: escL l = c :: l
    rw [ih h.2]
theorem escL_cons (c : UInt8) (l : List UInt8) : escL (c :: l) = escB c ++ escL l := by rw [escL, List.flatMap_cons]; rfl
theorem escL_snoc (l : List UInt8) (c : UInt8) : escL (l ++ [c]) = escL l ++ escB c := by simp [escL]
def cntS (l : List UInt8) : Nat := (l.filter special).length
theorem escL_length (l : List UInt8) : (escL l).length = l.length + cntS l := by
  induction l with
  | nil => rfl
  | cons c l ih =>
    rw [escL_cons, List.length_append, escB_length, ih, List.length_cons, cntS, cntS, List.filter_cons]
    by_cases h : special c = true
    · rw [if_pos h, if_pos h, List.length_cons]; omega
    · rw [if_neg h, if_neg h]; omega
theorem cntS_zero {l : List UInt8} : cntS l = 0 ↔ l.any special = false := by
  unfold cntS
  rw [List.length_eq_zero_iff, List.filter_eq_nil_iff, List.any_eq_false]
theorem cntS_le (l : List UInt8) : cntS l ≤ l.length := List.length_filter_le _ _
theorem cntS_split (l : List UInt8) : cntS l = Lib.countByte l 10 + Lib.countByte l 39 + Lib.countByte l 92 := by
  induction l with
  | nil => rfl
  | cons c l ih =>
    have h1 : cntS (c :: l) = (if special c = true then 1 else 0) + cntS l := by
      unfold cntS
      rw [List.filter_cons]
      split <;> simp <;> omega
    have h2 : ∀ b : UInt8, Lib.countByte (c :: l) b = (if c = b then 1 else 0) + Lib.countByte l b := by
      intro b
      unfold Lib.countByte
      simp [List.count_cons]
      split <;> simp_all <;> omega
    rw [h1, ih, h2, h2, h2]
    unfold special
    by_cases e1 : c = 10
    · simp [e1]; omega
    · by_cases e2 : c = 39
      · simp [e2]; omega
      · by_cases e3 : c = 92
        · simp [e3]; omega
        · simp [e1, e2, e3]
/-- Bytes as they lie in cells. -/
def bytesV (l : List UInt8) : List Value := l.map fun b => .int .u8 (b.toNat : Int)
theorem bytesV_length (l : List UInt8) : (bytesV l).length = l.length := by simp [bytesV]
theorem bytesV_append (a b : List UInt8) : bytesV (a ++ b) = bytesV a ++ bytesV b := by simp [bytesV]
/-- The buffer behind some bytes of it. -/
def bufL (pre : List UInt8) (N : Nat) : List Value := bytesV pre ++ List.replicate (N - pre.length) (.int .u8 0)
theorem bufL_length {pre : List UInt8} {N : Nat} (h : pre.length ≤ N) : (bufL pre N).length = N := by
  simp [bufL, bytesV_length]
  omega
theorem bufL_set {pre : List UInt8} {N : Nat} (c : UInt8) (h : pre.length < N) : (bufL pre N).set pre.length (.int .u8 (c.toNat : Int)) = bufL (pre ++ [c]) N := by
  unfold bufL
  obtain ⟨m, hm⟩ : ∃ m, N - pre.length = m + 1 := ⟨N - pre.length - 1, by omega⟩
  rw [List.length_append, List.length_singleton, hm, show N - (pre.length + 1) = m by omega, List.replicate_succ, List.set_append_right _ _ (by rw [bytesV_length]; exact Nat.le_refl _), bytesV_length, Nat.sub_self, bytesV_append]
  simp [bytesV]
theorem bufL_splice {pre news : List UInt8} {N : Nat} (h : pre.length + news.length ≤ N) : splice (bufL pre N) pre.length (bytesV news) = bufL (pre ++ news) N := by
  unfold splice bufL
  have h1 : (bytesV pre).length = pre.length := bytesV_length pre
  rw [List.take_append_of_le_length (by omega), List.take_of_length_le (by omega), bytesV_append, List.append_assoc]
  congr 2
  rw [List.drop_append, List.drop_of_length_le (by rw [bytesV_length]; omega), List.nil_append, List.drop_replicate, List.length_append, bytesV_length, bytesV_length]
  congr 1
  omega
theorem bufL_whole (l : List UInt8) : bufL l l.length = bytesV l := by simp [bufL]
theorem bufL_none (N : Nat) : bufL [] N = List.replicate N (.int .u8 0) := by simp [bufL, bytesV]
theorem escL_take_succ {l : List UInt8} {i : Nat} (h : i < l.length) : escL (l.take (i + 1)) = escL (l.take i) ++ escB l[i] := by
  rw [List.take_succ_eq_append_getElem h, escL_snoc]
theorem escL_take_le (l : List UInt8) (i : Nat) : (escL (l.take i)).length ≤ (escL l).length := by
  conv => rhs; rw [← List.take_append_drop i l]
  rw [escL, escL, List.flatMap_append, List.length_append]
  omega
theorem cntS_take_succ {l : List UInt8} {i : Nat} (h : i < l.length) : cntS (l.take (i + 1)) = cntS (l.take i) + if special l[i] = true then 1 else 0 := by
  unfold cntS
  rw [List.take_succ_eq_append_getElem h, List.filter_append, List.length_append, List.filter_cons]
  split <;> simp
theorem cntS_take_le (l : List UInt8) (i : Nat) : cntS (l.take i) ≤ i := Nat.le_trans (cntS_le _) (List.length_take_le _ _)
end Go.Proofs.YtdfjhhhbkgelaaaGreatDoor.V
