/- The plain laws of values' texts. -/
import Derived.Test.YtogobiijmdgfdaaGreatDoorText
import Derived.Test.YtogobiijmdgfdaaGreatDoorLaw
namespace Go.Proofs.YtogobiijmdgfdaaGreatDoor.V
set_option linter.unusedVariables false
set_option linter.unusedSimpArgs false

theorem escB_cases (c : UInt8) : (c = 10 ∧ escB c = [92, 110]) ∨ (c = 39 ∧ escB c = [92, 39]) ∨ (c = 92 ∧ escB c = [92, 92]) ∨ (c ≠ 10 ∧ c ≠ 39 ∧ c ≠ 92 ∧ escB c = [c]) := by
  unfold escB
  by_cases h1 : c = 10
  · simp [h1]
  · by_cases h2 : c = 39
    · simp [h1, h2]
    · by_cases h3 : c = 92 <;> simp [h1, h2, h3]
theorem escL_inj : ∀ l l' : List UInt8, escL l = escL l' → l = l'
  | [], [], _ => rfl
  | [], c :: l', h => by
    rw [escL_cons] at h
    rcases escB_cases c with ⟨_, e⟩ | ⟨_, e⟩ | ⟨_, e⟩ | ⟨_, _, _, e⟩ <;> rw [e] at h <;> cases h
  | c :: l, [], h => by
    rw [escL_cons] at h
    rcases escB_cases c with ⟨_, e⟩ | ⟨_, e⟩ | ⟨_, e⟩ | ⟨_, _, _, e⟩ <;> rw [e] at h <;> cases h
  | c :: l, c' :: l', h => by
    have ih := escL_inj l l'
    rw [escL_cons, escL_cons] at h
    rcases escB_cases c with ⟨a, e⟩ | ⟨a, e⟩ | ⟨a, e⟩ | ⟨a, a', a'', e⟩ <;> rcases escB_cases c' with ⟨b, f⟩ | ⟨b, f⟩ | ⟨b, f⟩ | ⟨b, b', b'', f⟩ <;> rw [e, f] at h <;>
      simp only [List.cons_append, List.nil_append, List.cons.injEq] at h <;>
      first
        | exact absurd h.2.1 (by decide)
        | (rw [a, b, ih h.2.2]; done)
        | (rw [h.1, ih h.2]; done)
        | (exfalso; exact a'' h.1.symm)
        | (exfalso; exact b'' h.1)
        | (exfalso; exact a' h.1)
        | (exfalso; exact a'' h.1)
        | (exfalso; exact b'' h.1.symm)
theorem dig_hi (u : Nat) : ∀ b ∈ Lib.decDigits u, 48 ≤ b.toNat ∧ b.toNat ≤ 57 := by
  induction u using Nat.strongRecOn with
  | _ u ih =>
    intro b hb
    rw [Lib.decDigits] at hb
    have hd : ∀ d, d < 10 → 48 ≤ (UInt8.ofNat (48 + d)).toNat ∧ (UInt8.ofNat (48 + d)).toNat ≤ 57 := by
      intro d hd
      rw [UInt8.toNat_ofNat']
      omega
    split at hb
    · rename_i h
      simp only [List.mem_singleton] at hb
      subst hb
      exact hd u h
    · rcases List.mem_append.1 hb with h | h
      · exact ih _ (by omega) b h
      · simp only [List.mem_singleton] at h
        subst h
        exact hd _ (by omega)
theorem dig_ne (u : Nat) : Lib.decDigits u ≠ [] := by
  rw [Lib.decDigits]
  split <;> simp
theorem dig_eq (u : Nat) : Lib.decDigits u = if u < 10 then [UInt8.ofNat (48 + u)] else Lib.decDigits (u / 10) ++ [UInt8.ofNat (48 + u % 10)] := by
  rw [Lib.decDigits]
  rfl
theorem dig_inj : ∀ u v : Nat, Lib.decDigits u = Lib.decDigits v → u = v := by
  intro u
  induction u using Nat.strongRecOn with
  | _ u ih =>
    intro v h
    have hd : ∀ d e, d < 10 → e < 10 → UInt8.ofNat (48 + d) = UInt8.ofNat (48 + e) → d = e := by
      intro d e hd he h
      have := congrArg UInt8.toNat h
      rw [UInt8.toNat_ofNat', UInt8.toNat_ofNat'] at this
      omega
    rw [dig_eq u, dig_eq v] at h
    split at h <;> split at h
    · rename_i h1 h2
      exact hd _ _ h1 h2 (by simpa using h)
    · have := congrArg List.length h
      have h0 := List.length_pos_iff.2 (dig_ne (v / 10))
      simp only [List.length_append, List.length_singleton, List.length_cons, List.length_nil] at this
      omega
    · have := congrArg List.length h
      have h0 := List.length_pos_iff.2 (dig_ne (u / 10))
      simp only [List.length_append, List.length_singleton, List.length_cons, List.length_nil] at this
      omega
    · have h1 := List.append_inj' h rfl
      have h2 := ih (u / 10) (by omega) (v / 10) h1.1
      have h3 := hd (u % 10) (v % 10) (by omega) (by omega) (List.cons.inj h1.2).1
      omega
theorem itoa_inj (n m : Int) (h : Lib.itoa n = Lib.itoa m) : n = m := by
  have hh : ∀ u v, (45 : UInt8) :: Lib.decDigits u ≠ Lib.decDigits v := by
    intro u v e
    have := dig_hi v 45 (by rw [← e]; simp)
    revert this
    decide
  unfold Lib.itoa at h
  split at h <;> split at h
  · have := dig_inj _ _ (List.cons.inj h).2
    omega
  · exact absurd h (hh _ _)
  · exact absurd h.symm (hh _ _)
  · have := dig_inj _ _ h
    omega
theorem itoa_head (n : Int) : ∃ c r, Lib.itoa n = c :: r ∧ (c = 45 ∨ (48 ≤ c.toNat ∧ c.toNat ≤ 57)) := by
  unfold Lib.itoa
  split
  · exact ⟨_, _, rfl, .inl rfl⟩
  · cases h : Lib.decDigits n.toNat with
    | nil => exact absurd h (dig_ne _)
    | cons c r => exact ⟨_, _, rfl, .inr (dig_hi n.toNat c (by rw [h]; simp))⟩
theorem plain_head {t : List UInt8} (h : plainL t = true) : ∃ c r, t = c :: r ∧ 97 ≤ c.toNat ∧ c.toNat ≤ 122 := by
  cases t with
  | nil => cases h
  | cons c r =>
    simp only [plainL, smallI, Bool.and_eq_true, decide_eq_true_eq] at h
    exact ⟨c, r, rfl, by omega, by omega⟩
theorem textL_inj (s : Bool) (t : List UInt8) (n : Int) (s' : Bool) (t' : List UInt8) (n' : Int) : textL s t n = textL s' t' n' ↔ cmpV s t n s' t' n' = 0 := by
  have key : ∀ (t : List UInt8) (n' : Int), textL true t 0 ≠ Lib.itoa n' := by
    intro t n' e
    obtain ⟨c, r, h1, h2⟩ := itoa_head n'
    rw [h1] at e
    simp only [textL] at e
    split at e
    · rename_i h
      obtain ⟨d, q, rfl, g⟩ := plain_head h.1
      obtain ⟨rfl, _⟩ := List.cons.inj e
      rcases h2 with rfl | h2
      · revert g; decide
      · omega
    · have := (List.cons.inj e).1
      subst this
      rcases h2 with h2 | h2 <;> revert h2 <;> decide
  have key2 : ∀ (t t' : List UInt8), plainL t = true → t ≠ 39 :: escL t' ++ [39] := by
    intro t t' h e
    obtain ⟨d, q, rfl, g⟩ := plain_head h
    have := (List.cons.inj e).1
    subst this
    revert g
    decide
  cases s <;> cases s' <;> simp only [cmpV]
  · rw [cmpN_zero]
    simp only [textL]
    exact ⟨itoa_inj _ _, fun h => by rw [h]⟩
  · refine ⟨fun e => absurd e.symm (key t' n), fun e => absurd e (by decide)⟩
  · refine ⟨fun e => absurd e (key t n'), fun e => absurd e (by decide)⟩
  · rw [cmpS_zero]
    refine ⟨fun e => ?_, fun h => by rw [h]; rfl⟩
    simp only [textL] at e
    split at e <;> split at e
    · exact e
    · rename_i h _
      exact absurd e (key2 _ _ h.1)
    · rename_i h
      exact absurd e.symm (key2 _ _ h.1)
    · have h1 := (List.cons.inj (by simpa using e : (39 : UInt8) :: (escL t ++ [39]) = 39 :: (escL t' ++ [39]))).2
      exact escL_inj _ _ (List.append_cancel_right h1)
theorem toList_beq (a b : ByteArray) : (a.toList == b.toList) = decide (a = b) := by
  rw [ByteArray.toList_eq, ByteArray.toList_eq, Bool.eq_iff_iff, beq_iff_eq, decide_eq_true_eq]
  constructor
  · intro h
    exact ByteArray.ext (Array.ext' (by simpa using h))
  · rintro rfl
    rfl
/-- What stands in marks. -/
theorem escL_no (l : List UInt8) : ∀ b ∈ escL l, b ≠ 10 := by
  induction l with
  | nil => simp [escL]
  | cons c l ih =>
    intro b hb
    rw [escL_cons] at hb
    rcases List.mem_append.1 hb with h | h
    · rcases escB_cases c with ⟨_, e⟩ | ⟨_, e⟩ | ⟨_, e⟩ | ⟨a, _, _, e⟩ <;> rw [e] at h <;> simp at h
      · rcases h with rfl | rfl <;> decide
      · rcases h with rfl | rfl <;> decide
      · subst h; decide
      · subst h; exact a
    · exact ih b h
theorem marks_no (l : List UInt8) : ∀ b ∈ 39 :: escL l ++ [39], b ≠ 10 := by
  intro b hb
  simp only [List.cons_append, List.mem_cons, List.mem_append, List.mem_nil_iff, or_false] at hb
  rcases hb with rfl | h | rfl
  · decide
  · exact escL_no l b h
  · decide
theorem same_of (s : Bool) (t : List UInt8) (n : Int) (s' : Bool) (t' : List UInt8) (n' : Int) :
    decide ((⟨(textL s t n).toArray⟩ : ByteArray) = ⟨(textL s' t' n').toArray⟩) = decide (cmpV s t n s' t' n' = 0) := by
  congr 1
  rw [← textL_inj]
  simp
end Go.Proofs.YtogobiijmdgfdaaGreatDoor.V
