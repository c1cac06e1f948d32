/- Figures and what is set ahead of a byte: plain laws. -/
import Derived.Test.YtdfjhhhbkgelaaaGreatDoorEsc
import Derived.Lib.ItoaNum
namespace Go.Proofs.YtdfjhhhbkgelaaaGreatDoor.V
set_option linter.unusedVariables false
set_option linter.unusedSimpArgs false

theorem escB_cases (c : UInt8) : (c = 10 ∧ escB c = [92, 110]) ∨ (c = 39 ∧ escB c = [92, 39]) ∨ (c = 92 ∧ escB c = [92, 92]) ∨ (c ≠ 10 ∧ c ≠ 39 ∧ c ≠ 92 ∧ escB c = [c]) := by
  unfold escB
  by_cases h1 : c = 10
  · simp [h1]
  · by_cases h2 : c = 39
    · simp [h1, h2]
    · by_cases h3 : c = 92 <;> simp [h1, h2, h3]
theorem dig_hi (u : Nat) : ∀ b ∈ Lib.decDigits u, 48 ≤ b.toNat ∧ b.toNat ≤ 57 := by
  induction u using Nat.strongRecOn with
  | _ u ih =>
    intro b hb
    rw [Lib.decDigits] at hb
    have hd : ∀ d, d < 10 → 48 ≤ (UInt8.ofNat (48 + d)).toNat ∧ (UInt8.ofNat (48 + d)).toNat ≤ 57 := by
      intro d hd
      rw [UInt8.toNat_ofNat']
      omega
    split at hb
    · rename_i h
      simp only [List.mem_singleton] at hb
      subst hb
      exact hd u h
    · rcases List.mem_append.1 hb with h | h
      · exact ih _ (by omega) b h
      · simp only [List.mem_singleton] at h
        subst h
        exact hd _ (by omega)
theorem dig_ne (u : Nat) : Lib.decDigits u ≠ [] := by
  rw [Lib.decDigits]
  split <;> simp
theorem dig_eq (u : Nat) : Lib.decDigits u = if u < 10 then [UInt8.ofNat (48 + u)] else Lib.decDigits (u / 10) ++ [UInt8.ofNat (48 + u % 10)] := by
  rw [Lib.decDigits]
  rfl
end Go.Proofs.YtdfjhhhbkgelaaaGreatDoor.V
