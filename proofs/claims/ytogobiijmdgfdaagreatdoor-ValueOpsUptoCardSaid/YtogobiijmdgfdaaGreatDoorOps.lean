/- The walk of ValueOps: whatever the two values, it returns true. Printed by genops.py. -/
import Derived.Test.YtogobiijmdgfdaaGreatDoorHolds
import Derived.Test.YtogobiijmdgfdaaGreatDoorShown
namespace Go.Proofs.YtogobiijmdgfdaaGreatDoor.V
set_option linter.unusedVariables false
set_option linter.unusedSimpArgs false
open Go.RowKit

theorem holds_op0 (s : Bool) (t : ByteArray) (n : Int) (s' : Bool) (t' : ByteArray) (n' : Int) (w : World) (c : Int) (hC : cmpV s t.toList n s' t'.toList n' = c) :
    Calls Tryz.prog 6 #[.string ⟨#[61]⟩, .agg #[.bool s, .string t, .int .i64 n], .agg #[.bool s', .string t', .int .i64 n']] w fun e w' => e = .returned (.tuple #[.bool (c == 0), .bool true]) ∧ Below w.heap.size w w' :=
  holds_at0 _ (by rw [ByteArray.toList_eq]; decide) s t n s' t' n' w c hC
theorem holds_op1 (s : Bool) (t : ByteArray) (n : Int) (s' : Bool) (t' : ByteArray) (n' : Int) (w : World) (c : Int) (hC : cmpV s t.toList n s' t'.toList n' = c) :
    Calls Tryz.prog 6 #[.string ⟨#[33, 61]⟩, .agg #[.bool s, .string t, .int .i64 n], .agg #[.bool s', .string t', .int .i64 n']] w fun e w' => e = .returned (.tuple #[.bool (c != 0), .bool true]) ∧ Below w.heap.size w w' :=
  holds_at1 _ (by rw [ByteArray.toList_eq]; decide) (by rw [ByteArray.toList_eq]; decide) s t n s' t' n' w c hC
theorem holds_op2 (s : Bool) (t : ByteArray) (n : Int) (s' : Bool) (t' : ByteArray) (n' : Int) (w : World) (c : Int) (hC : cmpV s t.toList n s' t'.toList n' = c) :
    Calls Tryz.prog 6 #[.string ⟨#[60]⟩, .agg #[.bool s, .string t, .int .i64 n], .agg #[.bool s', .string t', .int .i64 n']] w fun e w' => e = .returned (.tuple #[.bool (decide (c < 0)), .bool true]) ∧ Below w.heap.size w w' :=
  holds_at2 _ (by rw [ByteArray.toList_eq]; decide) (by rw [ByteArray.toList_eq]; decide) (by rw [ByteArray.toList_eq]; decide) s t n s' t' n' w c hC
theorem holds_op3 (s : Bool) (t : ByteArray) (n : Int) (s' : Bool) (t' : ByteArray) (n' : Int) (w : World) (c : Int) (hC : cmpV s t.toList n s' t'.toList n' = c) :
    Calls Tryz.prog 6 #[.string ⟨#[60, 61]⟩, .agg #[.bool s, .string t, .int .i64 n], .agg #[.bool s', .string t', .int .i64 n']] w fun e w' => e = .returned (.tuple #[.bool (decide (c ≤ 0)), .bool true]) ∧ Below w.heap.size w w' :=
  holds_at3 _ (by rw [ByteArray.toList_eq]; decide) (by rw [ByteArray.toList_eq]; decide) (by rw [ByteArray.toList_eq]; decide) (by rw [ByteArray.toList_eq]; decide) s t n s' t' n' w c hC
theorem holds_op4 (s : Bool) (t : ByteArray) (n : Int) (s' : Bool) (t' : ByteArray) (n' : Int) (w : World) (c : Int) (hC : cmpV s t.toList n s' t'.toList n' = c) :
    Calls Tryz.prog 6 #[.string ⟨#[62]⟩, .agg #[.bool s, .string t, .int .i64 n], .agg #[.bool s', .string t', .int .i64 n']] w fun e w' => e = .returned (.tuple #[.bool (decide (c > 0)), .bool true]) ∧ Below w.heap.size w w' :=
  holds_at4 _ (by rw [ByteArray.toList_eq]; decide) (by rw [ByteArray.toList_eq]; decide) (by rw [ByteArray.toList_eq]; decide) (by rw [ByteArray.toList_eq]; decide) (by rw [ByteArray.toList_eq]; decide) s t n s' t' n' w c hC
theorem holds_op5 (s : Bool) (t : ByteArray) (n : Int) (s' : Bool) (t' : ByteArray) (n' : Int) (w : World) (c : Int) (hC : cmpV s t.toList n s' t'.toList n' = c) :
    Calls Tryz.prog 6 #[.string ⟨#[62, 61]⟩, .agg #[.bool s, .string t, .int .i64 n], .agg #[.bool s', .string t', .int .i64 n']] w fun e w' => e = .returned (.tuple #[.bool (decide (c ≥ 0)), .bool true]) ∧ Below w.heap.size w w' :=
  holds_at5 _ (by rw [ByteArray.toList_eq]; decide) (by rw [ByteArray.toList_eq]; decide) (by rw [ByteArray.toList_eq]; decide) (by rw [ByteArray.toList_eq]; decide) (by rw [ByteArray.toList_eq]; decide) (by rw [ByteArray.toList_eq]; decide) s t n s' t' n' w c hC

set_option maxRecDepth 100000 in
set_option maxHeartbeats 8000000 in
theorem ops_walk (s : Bool) (t : ByteArray) (n : Int) (s' : Bool) (t' : ByteArray) (n' : Int) (w : World) (hw : TabW w) :
    Calls Tryz.prog 3 #[.agg #[.bool s, .string t, .int .i64 n], .agg #[.bool s', .string t', .int .i64 n']] w fun e w' => e = .returned (.bool true) ∧ Below w.heap.size w w' := by
  have H := cmpV_vals s t.toList n s' t'.toList n'
  have EN := cmpV_neg s t.toList n s' t'.toList n'
  obtain ⟨X, hX⟩ : ∃ X, cmpV s t.toList n s' t'.toList n' = X := ⟨_, rfl⟩
  rw [hX] at H EN
  have HH := Lib.hid H
  have HX := Lib.hid hX
  have HN := Lib.hid EN
  clear H hX EN
  obtain ⟨w3, hw3⟩ : ∃ w3, (w.alloc (.cells #[.bool s, .string t, .int .i64 n] 23)).alloc (.cells #[.bool s', .string t', .int .i64 n'] 23) = w3 := ⟨_, rfl⟩
  have hb3 : Below w.heap.size w w3 := by
    rw [← hw3]
    exact ((Below.refl _ _).alloc (Nat.le_refl _) _).alloc (by simp) _
  have b1 : Box w3 w.heap.size s t n := by rw [← hw3]; exact (Box.new _ _ _ _).alloc _
  have b2 : Box w3 (w.heap.size + 1) s' t' n' := by rw [← hw3]; have := Box.new (w.alloc (.cells #[.bool s, .string t, .int .i64 n] 23)) s' t' n'; simpa using this
  have HB := Lib.hid (And.intro hb3 (And.intro b1 b2))
  have HW := Lib.hid (hw.below hb3)
  have E3 := Lib.hid hw3
  clear hb3 b1 b2 hw hw3
  go_enter Tryz.func3, Tryz.ntmps3
  go_wp2_with fail
  rw [E3.out]
  refine (shown_calls _ HW.out).mono ?_
  rintro e w4 ⟨rfl, hb⟩
  clear E3 HW
  obtain ⟨hB, b1, b2⟩ := HB.out
  have HB := Lib.hid (And.intro (below_then hB hb hB.size) (And.intro (b1.below hb) (b2.below hb)))
  clear hB b1 b2 hb
  obtain ⟨hB, ⟨_, a0, a1, a2⟩, ⟨_, b0, b1, b2⟩⟩ := HB.out
  clear hB
  go_wp2_with fail
  refine (holds_op0 _ _ _ _ _ _ _ _ HX.out).mono ?_
  rintro e w5 ⟨rfl, hb⟩
  clear a0 a1 a2 b0 b1 b2
  obtain ⟨hB, b1, b2⟩ := HB.out
  have HB := Lib.hid (And.intro (below_then hB hb hB.size) (And.intro (b1.below hb) (b2.below hb)))
  clear hB b1 b2 hb
  obtain ⟨hB, ⟨_, a0, a1, a2⟩, ⟨_, b0, b1, b2⟩⟩ := HB.out
  clear hB
  go_wp2_with fail
  refine (holds_op1 _ _ _ _ _ _ _ _ HX.out).mono ?_
  rintro e w6 ⟨rfl, hb⟩
  clear a0 a1 a2 b0 b1 b2
  obtain ⟨hB, b1, b2⟩ := HB.out
  have HB := Lib.hid (And.intro (below_then hB hb hB.size) (And.intro (b1.below hb) (b2.below hb)))
  clear hB b1 b2 hb
  obtain ⟨hB, ⟨_, a0, a1, a2⟩, ⟨_, b0, b1, b2⟩⟩ := HB.out
  clear hB
  go_wp2_with fail
  refine (holds_op2 _ _ _ _ _ _ _ _ HX.out).mono ?_
  rintro e w7 ⟨rfl, hb⟩
  clear a0 a1 a2 b0 b1 b2
  obtain ⟨hB, b1, b2⟩ := HB.out
  have HB := Lib.hid (And.intro (below_then hB hb hB.size) (And.intro (b1.below hb) (b2.below hb)))
  clear hB b1 b2 hb
  obtain ⟨hB, ⟨_, a0, a1, a2⟩, ⟨_, b0, b1, b2⟩⟩ := HB.out
  clear hB
  go_wp2_with fail
  refine (holds_op5 _ _ _ _ _ _ _ _ HX.out).mono ?_
  rintro e w8 ⟨rfl, hb⟩
  clear a0 a1 a2 b0 b1 b2
  obtain ⟨hB, b1, b2⟩ := HB.out
  have HB := Lib.hid (And.intro (below_then hB hb hB.size) (And.intro (b1.below hb) (b2.below hb)))
  clear hB b1 b2 hb
  obtain ⟨hB, ⟨_, a0, a1, a2⟩, ⟨_, b0, b1, b2⟩⟩ := HB.out
  clear hB
  go_wp2_with fail
  refine (holds_op4 _ _ _ _ _ _ _ _ HX.out).mono ?_
  rintro e w9 ⟨rfl, hb⟩
  clear a0 a1 a2 b0 b1 b2
  obtain ⟨hB, b1, b2⟩ := HB.out
  have HB := Lib.hid (And.intro (below_then hB hb hB.size) (And.intro (b1.below hb) (b2.below hb)))
  clear hB b1 b2 hb
  obtain ⟨hB, ⟨_, a0, a1, a2⟩, ⟨_, b0, b1, b2⟩⟩ := HB.out
  clear hB
  go_wp2_with fail
  refine (holds_op3 _ _ _ _ _ _ _ _ HX.out).mono ?_
  rintro e w10 ⟨rfl, hb⟩
  clear a0 a1 a2 b0 b1 b2
  obtain ⟨hB, b1, b2⟩ := HB.out
  have HB := Lib.hid (And.intro (below_then hB hb hB.size) (And.intro (b1.below hb) (b2.below hb)))
  clear hB b1 b2 hb
  obtain ⟨hB, ⟨_, a0, a1, a2⟩, ⟨_, b0, b1, b2⟩⟩ := HB.out
  clear hB
  go_wp2_with fail
  refine (holds_op4 _ _ _ _ _ _ _ _ HN.out).mono ?_
  rintro e w11 ⟨rfl, hb⟩
  clear a0 a1 a2 b0 b1 b2
  obtain ⟨hB, b1, b2⟩ := HB.out
  have HB := Lib.hid (And.intro (below_then hB hb hB.size) (And.intro (b1.below hb) (b2.below hb)))
  clear hB b1 b2 hb
  obtain ⟨hB, ⟨_, a0, a1, a2⟩, ⟨_, b0, b1, b2⟩⟩ := HB.out
  clear hB
  go_wp2_with fail
  refine (holds_op5 _ _ _ _ _ _ _ _ HN.out).mono ?_
  rintro e w12 ⟨rfl, hb⟩
  clear a0 a1 a2 b0 b1 b2
  obtain ⟨hB, b1, b2⟩ := HB.out
  have HB := Lib.hid (And.intro (below_then hB hb hB.size) (And.intro (b1.below hb) (b2.below hb)))
  clear hB b1 b2 hb
  obtain ⟨hB, ⟨_, a0, a1, a2⟩, ⟨_, b0, b1, b2⟩⟩ := HB.out
  clear hB
  have h := HH.out
  have hB := HB.out.1
  clear HH HX HN HB a0 a1 a2 b0 b1 b2
  rcases h with rfl | rfl | rfl
  all_goals
    go_wp2_with fail
    go_ret
    exact ⟨rfl, hB⟩
end Go.Proofs.YtogobiijmdgfdaaGreatDoor.V
