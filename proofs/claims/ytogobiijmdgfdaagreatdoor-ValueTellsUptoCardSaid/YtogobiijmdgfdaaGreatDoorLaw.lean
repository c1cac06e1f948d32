/- The plain laws of the values' order. No program in sight but in the names. -/
import Derived.Test.YtogobiijmdgfdaaGreatDoorCmp
import Derived.Sort.Walk0
namespace Go.Proofs.YtogobiijmdgfdaaGreatDoor.V
set_option linter.unusedSimpArgs false
set_option linter.unusedVariables false

theorem cmpN_cases (a b : Int) : (a < b ∧ cmpN a b = -1) ∨ (a = b ∧ cmpN a b = 0) ∨ (b < a ∧ cmpN a b = 1) := by
  unfold cmpN
  by_cases h : a < b
  · simp [h]
  · by_cases h' : b < a
    · simp [h, h']
    · simp [h, h']; omega
theorem lt_iff (a b : List UInt8) : Op.bytesLess a b = true ↔ a < b := by
  rw [bytesLess_eq]
  simp
theorem cmpS_cases (a b : List UInt8) : (a < b ∧ cmpS a b = -1) ∨ (a = b ∧ cmpS a b = 0) ∨ (b < a ∧ cmpS a b = 1) := by
  unfold cmpS
  by_cases h : a < b
  · exact .inl ⟨h, by rw [if_pos ((lt_iff a b).2 h)]⟩
  · rw [if_neg (fun e => h ((lt_iff a b).1 e))]
    by_cases h' : a = b
    · exact .inr (.inl ⟨h', by rw [if_pos h']⟩)
    · refine .inr (.inr ⟨?_, by rw [if_neg h']⟩)
      by_cases g : b < a
      · exact g
      · exact absurd (List.le_antisymm (List.not_lt.1 g) (List.not_lt.1 h)) h'
theorem cmpS_neg (a b : List UInt8) : cmpS b a = -cmpS a b := by
  rcases cmpS_cases a b with ⟨h, e⟩ | ⟨h, e⟩ | ⟨h, e⟩ <;> rcases cmpS_cases b a with ⟨g, f⟩ | ⟨g, f⟩ | ⟨g, f⟩ <;> rw [e, f] <;> first | rfl | (subst h; exact absurd g (List.lt_irrefl _)) | (subst g; exact absurd h (List.lt_irrefl _)) | exact absurd (List.lt_trans h g) (List.lt_irrefl _)
theorem cmpS_tri (a b c : List UInt8) : (cmpS a b ≤ 0 → cmpS b c ≤ 0 → cmpS a c ≤ 0) ∧ (cmpS a b < 0 → cmpS b c < 0 → cmpS a c < 0) ∧ (cmpS a b = 0 → cmpS b c = cmpS a c) := by
  rcases cmpS_cases a b with ⟨h, e⟩ | ⟨h, e⟩ | ⟨h, e⟩
  · rcases cmpS_cases b c with ⟨g, f⟩ | ⟨g, f⟩ | ⟨g, f⟩
    · rcases cmpS_cases a c with ⟨k, m⟩ | ⟨k, m⟩ | ⟨k, m⟩
      · rw [e, f, m]; decide
      · subst k; exact absurd (List.lt_trans h g) (List.lt_irrefl _)
      · exact absurd (List.lt_trans (List.lt_trans h g) k) (List.lt_irrefl _)
    · subst g; rw [e, f]; decide
    · rw [e, f]; refine ⟨fun _ h => absurd h (by decide), fun _ h => absurd h (by decide), fun h => absurd h (by decide)⟩
  · subst h
    rw [e]
    exact ⟨fun _ h => h, fun h => absurd h (by decide), fun _ => rfl⟩
  · rw [e]; refine ⟨fun h => absurd h (by decide), fun h => absurd h (by decide), fun h => absurd h (by decide)⟩
theorem cmpN_neg (a b : Int) : cmpN b a = -cmpN a b := by
  rcases cmpN_cases a b with ⟨h, e⟩ | ⟨h, e⟩ | ⟨h, e⟩ <;> rcases cmpN_cases b a with ⟨g, f⟩ | ⟨g, f⟩ | ⟨g, f⟩ <;> rw [e, f] <;> omega
theorem cmpN_tri (a b c : Int) : (cmpN a b ≤ 0 → cmpN b c ≤ 0 → cmpN a c ≤ 0) ∧ (cmpN a b < 0 → cmpN b c < 0 → cmpN a c < 0) ∧ (cmpN a b = 0 → cmpN b c = cmpN a c) := by
  rcases cmpN_cases a b with ⟨h, e⟩ | ⟨h, e⟩ | ⟨h, e⟩ <;> rcases cmpN_cases b c with ⟨g, f⟩ | ⟨g, f⟩ | ⟨g, f⟩ <;> rcases cmpN_cases a c with ⟨k, m⟩ | ⟨k, m⟩ | ⟨k, m⟩ <;> rw [e, f, m] <;> omega
theorem cmpV_neg (s : Bool) (t : List UInt8) (n : Int) (s' : Bool) (t' : List UInt8) (n' : Int) : cmpV s' t' n' s t n = -cmpV s t n s' t' n' := by
  cases s <;> cases s' <;> simp only [cmpV] <;> first | exact cmpN_neg _ _ | exact cmpS_neg _ _ | rfl
theorem cmpV_self (s : Bool) (t : List UInt8) (n : Int) : cmpV s t n s t n = 0 := by
  have := cmpV_neg s t n s t n
  omega
theorem cmpV_vals (s : Bool) (t : List UInt8) (n : Int) (s' : Bool) (t' : List UInt8) (n' : Int) : cmpV s t n s' t' n' = -1 ∨ cmpV s t n s' t' n' = 0 ∨ cmpV s t n s' t' n' = 1 := by
  cases s <;> cases s' <;> simp only [cmpV]
  · rcases cmpN_cases n n' with ⟨_, e⟩ | ⟨_, e⟩ | ⟨_, e⟩ <;> simp [e]
  · simp
  · simp
  · rcases cmpS_cases t t' with ⟨_, e⟩ | ⟨_, e⟩ | ⟨_, e⟩ <;> simp [e]
theorem cmpV_tri (s : Bool) (t : List UInt8) (n : Int) (s' : Bool) (t' : List UInt8) (n' : Int) (z : Bool) (u : List UInt8) (m : Int) :
    (cmpV s t n s' t' n' ≤ 0 → cmpV s' t' n' z u m ≤ 0 → cmpV s t n z u m ≤ 0) ∧ (cmpV s t n s' t' n' < 0 → cmpV s' t' n' z u m < 0 → cmpV s t n z u m < 0) ∧ (cmpV s t n s' t' n' = 0 → cmpV s' t' n' z u m = cmpV s t n z u m) := by
  cases s <;> cases s' <;> cases z <;> simp only [cmpV] <;> first | exact cmpN_tri _ _ _ | exact cmpS_tri _ _ _ | (refine ⟨?_, ?_, ?_⟩ <;> intros <;> first | trivial | omega)
/-- Two values are the same. -/
def same (s : Bool) (t : List UInt8) (n : Int) (s' : Bool) (t' : List UInt8) (n' : Int) : Bool := cmpV s t n s' t' n' == 0
theorem cmpS_zero (a b : List UInt8) : cmpS a b = 0 ↔ a = b := by
  rcases cmpS_cases a b with ⟨h, e⟩ | ⟨h, e⟩ | ⟨h, e⟩ <;> rw [e]
  · exact ⟨fun h => absurd h (by decide), fun g => by subst g; exact absurd h (List.lt_irrefl _)⟩
  · simp [h]
  · exact ⟨fun h => absurd h (by decide), fun g => by subst g; exact absurd h (List.lt_irrefl _)⟩
theorem cmpS_less (a b : List UInt8) : decide (cmpS a b < 0) = Op.bytesLess a b := by
  unfold cmpS
  cases Op.bytesLess a b
  · by_cases h : a = b <;> simp [h]
  · rfl
theorem cmpN_zero (a b : Int) : cmpN a b = 0 ↔ a = b := by
  rcases cmpN_cases a b with ⟨h, e⟩ | ⟨h, e⟩ | ⟨h, e⟩ <;> rw [e] <;> omega
theorem cmpN_less (a b : Int) : decide (cmpN a b < 0) = decide (a < b) := by
  unfold cmpN
  by_cases h : a < b
  · simp [h]
  · by_cases h' : b < a <;> simp [h, h']
end Go.Proofs.YtogobiijmdgfdaaGreatDoor.V
