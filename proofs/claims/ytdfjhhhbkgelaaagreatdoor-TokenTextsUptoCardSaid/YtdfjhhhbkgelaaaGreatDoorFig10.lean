/- Figures and their number: with no program in sight. -/
import Derived.Test.YtdfjhhhbkgelaaaGreatDoorTok
import Derived.Lib.ParseIntBCases
import Derived.Lib.ItoaNum
namespace Go.Proofs.YtdfjhhhbkgelaaaGreatDoor.V
set_option linter.unusedVariables false
set_option linter.unusedSimpArgs false

/-- What figures spell, behind others. -/
def digF (a : Nat) (c : UInt8) : Nat := a * 10 + (c.toNat - 48)
def valF (acc : Nat) (l : List UInt8) : Nat := l.foldl digF acc
def allFig (l : List UInt8) : Prop := ∀ c ∈ l, ofB figI c = true

theorem fig_of {c : UInt8} (h : ofB figI c = true) : 48 ≤ c.toNat ∧ c.toNat ≤ 57 := by
  simp only [ofB, figI, Bool.and_eq_true, decide_eq_true_eq] at h
  omega
theorem of_fig {c : UInt8} (h1 : 48 ≤ c.toNat) (h2 : c.toNat ≤ 57) : ofB figI c = true := by
  simp only [ofB, figI, Bool.and_eq_true, decide_eq_true_eq]
  omega
theorem valF_nil (acc : Nat) : valF acc [] = acc := rfl
theorem valF_cons (acc : Nat) (c : UInt8) (r : List UInt8) : valF acc (c :: r) = valF (acc * 10 + (c.toNat - 48)) r := by
  unfold valF
  rw [List.foldl_cons, digF]
theorem valF_ge (l : List UInt8) : ∀ acc : Nat, acc ≤ valF acc l := by
  induction l with
  | nil => intro acc; exact Nat.le_refl _
  | cons c r ih =>
    intro acc
    have h := ih (acc * 10 + (c.toNat - 48))
    rw [valF_cons]
    omega
theorem valF_lt (l : List UInt8) : ∀ acc : Nat, allFig l → valF acc l < (acc + 1) * 10 ^ l.length := by
  induction l with
  | nil => intro acc _; rw [valF_nil, List.length_nil, Nat.pow_zero]; omega
  | cons c r ih =>
    intro acc h
    have h1 := ih (acc * 10 + (c.toNat - 48)) (fun x hx => h x (List.mem_cons_of_mem _ hx))
    have h2 := fig_of (h c (List.mem_cons_self ..))
    rw [valF_cons, List.length_cons, Nat.pow_succ, Nat.mul_comm (10 ^ _) 10, ← Nat.mul_assoc]
    refine Nat.lt_of_lt_of_le h1 (Nat.mul_le_mul_right _ ?_)
    omega
theorem valF_app (a b : List UInt8) (acc : Nat) : valF acc (a ++ b) = valF (valF acc a) b := List.foldl_append
theorem parseM_val (l : List UInt8) : ∀ acc : Nat, allFig l → acc ≤ 18446744073709551615 → Lib.parseUintM 18446744073709551615 acc l = if 18446744073709551615 < valF acc l then .range else .ok (valF acc l) := by
  induction l with
  | nil => intro acc _ h; rw [Lib.parseUintM, valF_nil, if_neg (by omega)]
  | cons c r ih =>
    intro acc h ha
    have h2 := fig_of (h c (List.mem_cons_self ..))
    have h3 : allFig r := fun x hx => h x (List.mem_cons_of_mem _ hx)
    have h4 := valF_ge r (acc * 10 + (c.toNat - 48))
    rw [Lib.parseUintM, if_pos h2, valF_cons]
    by_cases h5 : 1844674407370955162 ≤ acc
    · rw [if_pos h5, if_pos (by omega)]
    · rw [if_neg h5]
      by_cases h6 : 18446744073709551615 < acc * 10 + (c.toNat - 48)
      · rw [if_pos h6, if_pos (by omega)]
      · rw [if_neg h6]
        exact ih _ h3 (by omega)
theorem parseU_val (l : List UInt8) (h : allFig l) (h0 : l ≠ []) : Lib.parseUintB 64 l = if 18446744073709551615 < valF 0 l then .range else .ok (valF 0 l) := by
  unfold Lib.parseUintB
  rw [if_neg h0]
  exact parseM_val l 0 h (by omega)
theorem parseI_low (l : List UInt8) (h : allFig l) (h0 : l ≠ []) : Lib.parseIntB 64 (45 :: l) = if 9223372036854775808 < valF 0 l then .range else .ok (-(valF 0 l : Int)) := by
  rw [Lib.parseIntB_minus, parseU_val l h h0]
  by_cases h1 : 18446744073709551615 < valF 0 l
  · rw [if_pos h1, if_pos (by omega)]; rfl
  · rw [if_neg h1]
    by_cases h2 : 9223372036854775808 < valF 0 l
    · rw [if_pos h2]
      exact if_pos h2
    · rw [if_neg h2]
      exact if_neg h2
theorem parseI_high (c : UInt8) (l : List UInt8) (h : allFig (c :: l)) : Lib.parseIntB 64 (c :: l) = if 9223372036854775808 ≤ valF 0 (c :: l) then .range else .ok (valF 0 (c :: l) : Int) := by
  have hc := fig_of (h c (List.mem_cons_self ..))
  rw [Lib.parseIntB_plain 64 c l (by omega) (by omega), parseU_val _ h (by simp)]
  by_cases h1 : 18446744073709551615 < valF 0 (c :: l)
  · rw [if_pos h1, if_pos (by omega)]; rfl
  · rw [if_neg h1]
    by_cases h2 : 9223372036854775808 ≤ valF 0 (c :: l)
    · rw [if_pos h2]
      exact if_pos h2
    · rw [if_neg h2]
      exact if_neg h2

theorem digs (u : Nat) : allFig (Lib.decDigits u) ∧ Lib.decDigits u ≠ [] ∧ valF 0 (Lib.decDigits u) = u := by
  induction u using Nat.strongRecOn with
  | _ u ih =>
    have hd : ∀ d, d < 10 → (UInt8.ofNat (48 + d)).toNat = 48 + d := by
      intro d hd
      rw [UInt8.toNat_ofNat']
      omega
    rw [Lib.decDigits]
    split
    · rename_i h
      refine ⟨?_, by simp, ?_⟩
      · intro c hc
        rw [List.mem_singleton.1 hc]
        have := hd u h
        exact of_fig (by omega) (by omega)
      · have := hd u h
        rw [valF_cons, valF_nil]
        omega
    · rename_i h
      obtain ⟨a, b, c⟩ := ih (u / 10) (by omega)
      have h1 := hd (u % 10) (by omega)
      refine ⟨?_, by simp, ?_⟩
      · intro x hx
        rcases List.mem_append.1 hx with hx | hx
        · exact a x hx
        · rw [List.mem_singleton.1 hx]
          exact of_fig (by omega) (by omega)
      · rw [valF_app, c]
        rw [valF_cons, valF_nil]
        omega
theorem digs_len (u : Nat) : ∀ k, u < 10 ^ (k + 1) → (Lib.decDigits u).length ≤ k + 1 := by
  induction u using Nat.strongRecOn with
  | _ u ih =>
    intro k hk
    rw [Lib.decDigits]
    split
    · simp
    · rename_i h
      match k with
      | 0 => simp at hk; omega
      | k + 1 =>
        have := ih (u / 10) (by omega) k (by rw [Nat.pow_succ] at hk; omega)
        simp
        omega
end Go.Proofs.YtdfjhhhbkgelaaaGreatDoor.V
