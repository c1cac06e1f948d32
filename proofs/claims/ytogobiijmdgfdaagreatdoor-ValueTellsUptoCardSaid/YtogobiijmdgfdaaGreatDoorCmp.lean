/- cmp.Compare at strings and at whole numbers, value.Compare, value.Same, the runes' kinds, Sym, Int: each by a contract; Compare's box is new memory. -/
import Derived.Test.YtogobiijmdgfdaaGreatDoorProg
import Derived.Tactics
import Derived.Tactics2
import Derived.WalkKit
import Derived.WalkLawsBesides
import Derived.WalkSpells
import Derived.Below
import Derived.Lib.Hide
import Derived.KernelRfl
namespace Go.Proofs.YtogobiijmdgfdaaGreatDoor.V
set_option linter.unusedVariables false
open Go.RowKit
set_option linter.unusedSimpArgs false

/-- Which of two texts is ahead; of two numbers. -/
def cmpS (a b : List UInt8) : Int := if Op.bytesLess a b = true then -1 else if a = b then 0 else 1
def cmpN (a b : Int) : Int := if a < b then -1 else if b < a then 1 else 0

theorem cmpInt_calls (a b : Int) (w : World) : Calls Tryz.prog 25 #[.int .i64 a, .int .i64 b] w fun e w' => e = .returned (.int .i64 (cmpN a b)) ∧ w = w' := by
  unfold cmpN
  by_cases h1 : a < b
  · have h1d : decide (a < b) = true := decide_eq_true h1
    go_enter Tryz.func25, Tryz.ntmps25
    go_wp2
    go_ret
    exact ⟨by simp [h1], rfl⟩
  · have h1d : decide (a < b) = false := decide_eq_false h1
    by_cases h2 : b < a
    · have h2d : decide (b < a) = true := decide_eq_true h2
      go_enter Tryz.func25, Tryz.ntmps25
      go_wp2
      go_ret
      exact ⟨by simp [h1, h2], rfl⟩
    · have h2d : decide (b < a) = false := decide_eq_false h2
      go_enter Tryz.func25, Tryz.ntmps25
      go_wp2
      go_ret
      exact ⟨by simp [h1, h2], rfl⟩

theorem cmpStr_calls (a b : ByteArray) (w : World) : Calls Tryz.prog 24 #[.string a, .string b] w fun e w' => e = .returned (.int .i64 (cmpS a.toList b.toList)) ∧ w = w' := by
  unfold cmpS
  cases h1 : Op.bytesLess a.toList b.toList with
  | true =>
    go_enter Tryz.func24, Tryz.ntmps24
    go_wp2
    go_ret
    exact ⟨by simp, rfl⟩
  | false =>
    by_cases h2 : a.toList = b.toList
    · have h2d : (a.toList == b.toList) = true := beq_iff_eq.2 h2
      have H2 := Lib.hid h2
      clear h2
      go_enter Tryz.func24, Tryz.ntmps24
      go_wp2
      go_ret
      exact ⟨by simp [H2.out], rfl⟩
    · have h2d : (a.toList == b.toList) = false := beq_eq_false_iff_ne.2 h2
      go_enter Tryz.func24, Tryz.ntmps24
      go_wp2
      go_ret
      exact ⟨by simp [h2], rfl⟩

/-- What runes are. -/
def smallI (c : Int) : Bool := decide (97 ≤ c) && decide (c ≤ 122)
def wordI (c : Int) : Bool := smallI c || (decide (65 ≤ c) && decide (c ≤ 90)) || (decide (48 ≤ c) && decide (c ≤ 57)) || decide (c = 95)
theorem small_calls (c : Int) (w : World) : Calls Tryz.prog 31 #[.int .i32 c] w fun e w' => e = .returned (.bool (smallI c)) ∧ w = w' := by
  unfold smallI
  by_cases h1 : 97 ≤ c
  · have h1d : decide (97 ≤ c) = true := decide_eq_true h1
    go_enter Tryz.func31, Tryz.ntmps31
    go_wp2
    go_ret
    exact ⟨by simp [h1], rfl⟩
  · have h1d : decide (97 ≤ c) = false := decide_eq_false h1
    go_enter Tryz.func31, Tryz.ntmps31
    go_wp2
    go_ret
    exact ⟨by simp [h1], rfl⟩
theorem word_calls (c : Int) (w : World) : Calls Tryz.prog 32 #[.int .i32 c] w fun e w' => e = .returned (.bool (wordI c)) ∧ w = w' := by
  unfold wordI
  cases hs : smallI c with
  | true =>
    go_enter Tryz.func32, Tryz.ntmps32
    go_wp2_with (go_at_call 31; refine (small_calls _ _).mono ?_; rintro e w' ⟨rfl, rfl⟩; rw [hs])
    go_ret
    exact ⟨by simp, rfl⟩
  | false =>
    by_cases h1 : 65 ≤ c
    · have h1d : decide (65 ≤ c) = true := decide_eq_true h1
      have h3 : 48 ≤ c := by omega
      have h3d : decide (48 ≤ c) = true := decide_eq_true h3
      by_cases h2 : c ≤ 90
      · have h2d : decide (c ≤ 90) = true := decide_eq_true h2
        go_enter Tryz.func32, Tryz.ntmps32
        go_wp2_with (go_at_call 31; refine (small_calls _ _).mono ?_; rintro e w' ⟨rfl, rfl⟩; rw [hs])
        go_ret
        exact ⟨by simp [h1, h2], rfl⟩
      · have h2d : decide (c ≤ 90) = false := decide_eq_false h2
        have h4 : ¬ c ≤ 57 := by omega
        have h4d : decide (c ≤ 57) = false := decide_eq_false h4
        go_enter Tryz.func32, Tryz.ntmps32
        go_wp2_with (go_at_call 31; refine (small_calls _ _).mono ?_; rintro e w' ⟨rfl, rfl⟩; rw [hs])
        go_ret
        refine ⟨?_, rfl⟩
        rw [h2d, h4d, h1d, h3d]
        by_cases h5 : c = 95 <;> simp [h5]
    · have h1d : decide (65 ≤ c) = false := decide_eq_false h1
      have h5 : ¬ c = 95 := by omega
      by_cases h3 : 48 ≤ c
      · have h3d : decide (48 ≤ c) = true := decide_eq_true h3
        by_cases h4 : c ≤ 57
        · have h4d : decide (c ≤ 57) = true := decide_eq_true h4
          go_enter Tryz.func32, Tryz.ntmps32
          go_wp2_with (go_at_call 31; refine (small_calls _ _).mono ?_; rintro e w' ⟨rfl, rfl⟩; rw [hs])
          go_ret
          exact ⟨by simp [h1, h3, h4], rfl⟩
        · have h4d : decide (c ≤ 57) = false := decide_eq_false h4
          have h5b : (c == 95) = false := by simpa using h5
          go_enter Tryz.func32, Tryz.ntmps32
          go_wp2_with (go_at_call 31; refine (small_calls _ _).mono ?_; rintro e w' ⟨rfl, rfl⟩; rw [hs])
          go_ret
          exact ⟨by simp [h4, h5]; omega, rfl⟩
      · have h3d : decide (48 ≤ c) = false := decide_eq_false h3
        have h5b : (c == 95) = false := by simpa using h5
        go_enter Tryz.func32, Tryz.ntmps32
        go_wp2_with (go_at_call 31; refine (small_calls _ _).mono ?_; rintro e w' ⟨rfl, rfl⟩; rw [hs])
        go_ret
        exact ⟨by simp [h5]; omega, rfl⟩

/-- A value as it lies in a slot. -/
def valV (s : Bool) (t : ByteArray) (n : Int) : Value := .agg #[.bool s, .string t, .int .i64 n]
theorem sym_calls (s : ByteArray) (w : World) : Calls Tryz.prog 16 #[.string s] w fun e w' => e = .returned (.agg #[.bool true, .string s, .int .i64 0]) ∧ Below w.heap.size w w' := by
  go_enter Tryz.func16, Tryz.ntmps16
  go_wp2
  refine bodyPost_ret (v := .agg #[.bool true, .string s, .int .i64 0]) (by simp [results, Tryz.results16, go_sem]) rfl ⟨rfl, (Below.refl _ _).alloc (Nat.le_refl _) _⟩
theorem int_calls (n : Int) (w : World) : Calls Tryz.prog 17 #[.int .i64 n] w fun e w' => e = .returned (.agg #[.bool false, .string ⟨#[]⟩, .int .i64 n]) ∧ Below w.heap.size w w' := by
  go_enter Tryz.func17, Tryz.ntmps17
  go_wp2
  refine bodyPost_ret (v := .agg #[.bool false, .string ⟨#[]⟩, .int .i64 n]) (by simp [results, Tryz.results17, go_sem]) rfl ⟨rfl, (Below.refl _ _).alloc (Nat.le_refl _) _⟩

/-- Which of two values is ahead. -/
def cmpV (s : Bool) (t : List UInt8) (n : Int) (s' : Bool) (t' : List UInt8) (n' : Int) : Int := match s, s' with
  | true, true => cmpS t t'
  | true, false => 1
  | false, true => -1
  | false, false => cmpN n n'
theorem compare_calls (s : Bool) (t : ByteArray) (n : Int) (s' : Bool) (t' : ByteArray) (n' : Int) (w : World) :
    Calls Tryz.prog 8 #[.agg #[.bool s, .string t, .int .i64 n], .agg #[.bool s', .string t', .int .i64 n']] w fun e w' => e = .returned (.int .i64 (cmpV s t.toList n s' t'.toList n')) ∧ Below w.heap.size w w' := by
  have hb : ∀ o p : Obj, Below w.heap.size w ((w.alloc o).alloc p) := fun o p => ((Below.refl _ _).alloc (Nat.le_refl _) o).alloc (by simp) p
  cases s <;> cases s'
  all_goals
    go_enter Tryz.func8, Tryz.ntmps8
    go_wp2_with (first | (go_at_call 24; refine (cmpStr_calls _ _ _).mono ?_; rintro e w' ⟨rfl, rfl⟩) | (go_at_call 25; refine (cmpInt_calls _ _ _).mono ?_; rintro e w' ⟨rfl, rfl⟩))
    go_ret
    exact ⟨rfl, hb _ _⟩
end Go.Proofs.YtogobiijmdgfdaaGreatDoor.V
