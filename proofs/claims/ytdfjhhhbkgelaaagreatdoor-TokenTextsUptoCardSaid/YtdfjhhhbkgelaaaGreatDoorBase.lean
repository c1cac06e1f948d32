/- The runes' kinds, Sym, Int: each by a contract. -/
import Derived.Test.YtdfjhhhbkgelaaaGreatDoorProg
import Derived.Tactics
import Derived.Tactics2
import Derived.WalkKit
import Derived.WalkLawsBesides
import Derived.WalkSpells
import Derived.Below
import Derived.Lib.Hide
import Derived.KernelRfl
namespace Go.Proofs.YtdfjhhhbkgelaaaGreatDoor.V
set_option linter.unusedVariables false
open Go.RowKit
set_option linter.unusedSimpArgs false

/-- What runes are. -/
def smallI (c : Int) : Bool := decide (97 ≤ c) && decide (c ≤ 122)
def wordI (c : Int) : Bool := smallI c || (decide (65 ≤ c) && decide (c ≤ 90)) || (decide (48 ≤ c) && decide (c ≤ 57)) || decide (c = 95)
theorem small_calls (c : Int) (w : World) : Calls Tryz.prog 58 #[.int .i32 c] w fun e w' => e = .returned (.bool (smallI c)) ∧ w = w' := by
  unfold smallI
  by_cases h1 : 97 ≤ c
  · have h1d : decide (97 ≤ c) = true := decide_eq_true h1
    go_enter Tryz.func58, Tryz.ntmps58
    go_wp2
    go_ret
    exact ⟨by simp [h1], rfl⟩
  · have h1d : decide (97 ≤ c) = false := decide_eq_false h1
    go_enter Tryz.func58, Tryz.ntmps58
    go_wp2
    go_ret
    exact ⟨by simp [h1], rfl⟩
theorem word_calls (c : Int) (w : World) : Calls Tryz.prog 59 #[.int .i32 c] w fun e w' => e = .returned (.bool (wordI c)) ∧ w = w' := by
  unfold wordI
  cases hs : smallI c with
  | true =>
    go_enter Tryz.func59, Tryz.ntmps59
    go_wp2_with (go_at_call 58; refine (small_calls _ _).mono ?_; rintro e w' ⟨rfl, rfl⟩; rw [hs])
    go_ret
    exact ⟨by simp, rfl⟩
  | false =>
    by_cases h1 : 65 ≤ c
    · have h1d : decide (65 ≤ c) = true := decide_eq_true h1
      have h3 : 48 ≤ c := by omega
      have h3d : decide (48 ≤ c) = true := decide_eq_true h3
      by_cases h2 : c ≤ 90
      · have h2d : decide (c ≤ 90) = true := decide_eq_true h2
        go_enter Tryz.func59, Tryz.ntmps59
        go_wp2_with (go_at_call 58; refine (small_calls _ _).mono ?_; rintro e w' ⟨rfl, rfl⟩; rw [hs])
        go_ret
        exact ⟨by simp [h1, h2], rfl⟩
      · have h2d : decide (c ≤ 90) = false := decide_eq_false h2
        have h4 : ¬ c ≤ 57 := by omega
        have h4d : decide (c ≤ 57) = false := decide_eq_false h4
        go_enter Tryz.func59, Tryz.ntmps59
        go_wp2_with (go_at_call 58; refine (small_calls _ _).mono ?_; rintro e w' ⟨rfl, rfl⟩; rw [hs])
        go_ret
        refine ⟨?_, rfl⟩
        rw [h2d, h4d, h1d, h3d]
        by_cases h5 : c = 95 <;> simp [h5]
    · have h1d : decide (65 ≤ c) = false := decide_eq_false h1
      have h5 : ¬ c = 95 := by omega
      by_cases h3 : 48 ≤ c
      · have h3d : decide (48 ≤ c) = true := decide_eq_true h3
        by_cases h4 : c ≤ 57
        · have h4d : decide (c ≤ 57) = true := decide_eq_true h4
          go_enter Tryz.func59, Tryz.ntmps59
          go_wp2_with (go_at_call 58; refine (small_calls _ _).mono ?_; rintro e w' ⟨rfl, rfl⟩; rw [hs])
          go_ret
          exact ⟨by simp [h1, h3, h4], rfl⟩
        · have h4d : decide (c ≤ 57) = false := decide_eq_false h4
          have h5b : (c == 95) = false := by simpa using h5
          go_enter Tryz.func59, Tryz.ntmps59
          go_wp2_with (go_at_call 58; refine (small_calls _ _).mono ?_; rintro e w' ⟨rfl, rfl⟩; rw [hs])
          go_ret
          exact ⟨by simp [h4, h5]; omega, rfl⟩
      · have h3d : decide (48 ≤ c) = false := decide_eq_false h3
        have h5b : (c == 95) = false := by simpa using h5
        go_enter Tryz.func59, Tryz.ntmps59
        go_wp2_with (go_at_call 58; refine (small_calls _ _).mono ?_; rintro e w' ⟨rfl, rfl⟩; rw [hs])
        go_ret
        exact ⟨by simp [h5]; omega, rfl⟩

/-- A value as it lies in a slot. -/
def valV (s : Bool) (t : ByteArray) (n : Int) : Value := .agg #[.bool s, .string t, .int .i64 n]
theorem sym_calls (s : ByteArray) (w : World) : Calls Tryz.prog 49 #[.string s] w fun e w' => e = .returned (.agg #[.bool true, .string s, .int .i64 0]) ∧ Below w.heap.size w w' := by
  go_enter Tryz.func49, Tryz.ntmps49
  go_wp2
  refine bodyPost_ret (v := .agg #[.bool true, .string s, .int .i64 0]) (by simp [results, Tryz.results49, go_sem]) rfl ⟨rfl, (Below.refl _ _).alloc (Nat.le_refl _) _⟩
theorem cell_below {w w1 : World} (h : Below w.heap.size w w1) {a : Addr} {v : Value} (hc : w.cell? a = some v) : w1.cell? a = some v := (h.cell (World.block_lt_of_cell? w a hc)).trans hc
theorem below_then {B : Nat} {w W w3 : World} (h : Below B w W) (h3 : Below W.heap.size W w3) (hB : B ≤ W.heap.size) : Below B w w3 := h.trans (h3.mono hB)
theorem below_then' {B : Nat} {w W w3 : World} (h : Below B w W) (h3 : Below W.heap.size W w3) (hB : B ≤ w.heap.size) : Below B w w3 := h.trans (h3.mono (Nat.le_trans hB h.size))
end Go.Proofs.YtdfjhhhbkgelaaaGreatDoor.V
