/- value.Holds: what any operator says of two values. Printed by genholds.py. -/
import Derived.Test.YtogobiijmdgfdaaGreatDoorBox
import Derived.LoopN
namespace Go.Proofs.YtogobiijmdgfdaaGreatDoor.V
set_option linter.unusedVariables false
set_option linter.unusedSimpArgs false
open Go.RowKit

theorem run_store_func {P : Program} {w : World} {a : Addr} {m : Mode} (f : Fn) (x y : Array Value) : (store a (.func f x y) m).run P w = stored P w a (.func f x y) m := run_store P w a _ m rfl
theorem holds1_calls (c : Int) (w : World) : Calls Tryz.prog 18 #[.int .i64 c] w fun e w' => e = .returned (.bool (c == 0)) ∧ w = w' := by
  go_enter Tryz.func18, Tryz.ntmps18
  go_wp2_with fail
  go_ret
  exact ⟨rfl, rfl⟩
theorem holds2_calls (c : Int) (w : World) : Calls Tryz.prog 19 #[.int .i64 c] w fun e w' => e = .returned (.bool (c != 0)) ∧ w = w' := by
  go_enter Tryz.func19, Tryz.ntmps19
  go_wp2_with fail
  go_ret
  exact ⟨rfl, rfl⟩
theorem holds3_calls (c : Int) (w : World) : Calls Tryz.prog 20 #[.int .i64 c] w fun e w' => e = .returned (.bool (decide (c < 0))) ∧ w = w' := by
  go_enter Tryz.func20, Tryz.ntmps20
  go_wp2_with fail
  go_ret
  exact ⟨rfl, rfl⟩
theorem holds4_calls (c : Int) (w : World) : Calls Tryz.prog 21 #[.int .i64 c] w fun e w' => e = .returned (.bool (decide (c ≤ 0))) ∧ w = w' := by
  go_enter Tryz.func21, Tryz.ntmps21
  go_wp2_with fail
  go_ret
  exact ⟨rfl, rfl⟩
theorem holds5_calls (c : Int) (w : World) : Calls Tryz.prog 22 #[.int .i64 c] w fun e w' => e = .returned (.bool (decide (c > 0))) ∧ w = w' := by
  go_enter Tryz.func22, Tryz.ntmps22
  go_wp2_with fail
  go_ret
  exact ⟨rfl, rfl⟩
theorem holds6_calls (c : Int) (w : World) : Calls Tryz.prog 23 #[.int .i64 c] w fun e w' => e = .returned (.bool (decide (c ≥ 0))) ∧ w = w' := by
  go_enter Tryz.func23, Tryz.ntmps23
  go_wp2_with fail
  go_ret
  exact ⟨rfl, rfl⟩

set_option maxRecDepth 100000 in
set_option maxHeartbeats 8000000 in
theorem holds_at0 (o : ByteArray) (h0 : (([61] : List UInt8) == o.toList) = true) (s : Bool) (t : ByteArray) (n : Int) (s' : Bool) (t' : ByteArray) (n' : Int) (w : World) (c : Int) (hC : cmpV s t.toList n s' t'.toList n' = c) :
    Calls Tryz.prog 6 #[.string o, .agg #[.bool s, .string t, .int .i64 n], .agg #[.bool s', .string t', .int .i64 n']] w fun e w' => e = .returned (.tuple #[.bool (c == 0), .bool true]) ∧ Below w.heap.size w w' := by
  have HB := Lib.hid (((Below.refl w.heap.size w).alloc (Nat.le_refl _) (.cells #[.bool s, .string t, .int .i64 n] 23)).alloc (by simp) (.cells #[.bool s', .string t', .int .i64 n'] 23))
  have EC := Lib.hid hC
  have hsf : ∀ (W : World) (a : Addr) (f : Fn) (x y : Array Value), (store a (.func f x y)).run Tryz.prog W = stored Tryz.prog W a (.func f x y) .plain := fun W a f x y => run_store_func f x y
  clear hC
  go_enter Tryz.func6, Tryz.ntmps6
  go_wp2_with fail
  refine (compare_calls _ _ _ _ _ _ _).mono ?_
  rintro e w2 ⟨rfl, hb⟩
  have hb2 := below_then HB.out hb HB.out.size
  have hz := hb2.size
  rw [EC.out]
  clear hb HB
  go_wp2_with fail
  refine wp_loop_rounds 1 ?_
  rw [rounds_succ]
  go_wp2_with fail
  refine (holds1_calls _ _).mono ?_
  rintro e w3 ⟨rfl, rfl⟩
  go_wp2_with fail
  refine bodyPost_ret (v := .tuple #[.bool (c == 0), .bool true]) (by simp [results, Tryz.results6, go_sem]) rfl ⟨rfl, ?_⟩
  (repeat (first | with_reducible assumption | with_reducible exact Below.refl _ _ | with_reducible apply Below.drew | (with_reducible refine Below.alloc ?_ ?_ _; rotate_left; focus ((first | omega | (simp <;> omega)); done))))

set_option maxRecDepth 100000 in
set_option maxHeartbeats 8000000 in
theorem holds_at1 (o : ByteArray) (h0 : (([61] : List UInt8) == o.toList) = false) (h1 : (([33, 61] : List UInt8) == o.toList) = true) (s : Bool) (t : ByteArray) (n : Int) (s' : Bool) (t' : ByteArray) (n' : Int) (w : World) (c : Int) (hC : cmpV s t.toList n s' t'.toList n' = c) :
    Calls Tryz.prog 6 #[.string o, .agg #[.bool s, .string t, .int .i64 n], .agg #[.bool s', .string t', .int .i64 n']] w fun e w' => e = .returned (.tuple #[.bool (c != 0), .bool true]) ∧ Below w.heap.size w w' := by
  have HB := Lib.hid (((Below.refl w.heap.size w).alloc (Nat.le_refl _) (.cells #[.bool s, .string t, .int .i64 n] 23)).alloc (by simp) (.cells #[.bool s', .string t', .int .i64 n'] 23))
  have EC := Lib.hid hC
  have hsf : ∀ (W : World) (a : Addr) (f : Fn) (x y : Array Value), (store a (.func f x y)).run Tryz.prog W = stored Tryz.prog W a (.func f x y) .plain := fun W a f x y => run_store_func f x y
  clear hC
  go_enter Tryz.func6, Tryz.ntmps6
  go_wp2_with fail
  refine (compare_calls _ _ _ _ _ _ _).mono ?_
  rintro e w2 ⟨rfl, hb⟩
  have hb2 := below_then HB.out hb HB.out.size
  have hz := hb2.size
  rw [EC.out]
  clear hb HB
  go_wp2_with fail
  refine wp_loop_rounds 2 ?_
  rw [rounds_succ]
  go_wp2_with fail
  rw [rounds_succ]
  go_wp2_with fail
  refine (holds2_calls _ _).mono ?_
  rintro e w3 ⟨rfl, rfl⟩
  go_wp2_with fail
  refine bodyPost_ret (v := .tuple #[.bool (c != 0), .bool true]) (by simp [results, Tryz.results6, go_sem]) rfl ⟨rfl, ?_⟩
  (repeat (first | with_reducible assumption | with_reducible exact Below.refl _ _ | with_reducible apply Below.drew | (with_reducible refine Below.alloc ?_ ?_ _; rotate_left; focus ((first | omega | (simp <;> omega)); done))))

set_option maxRecDepth 100000 in
set_option maxHeartbeats 8000000 in
theorem holds_at2 (o : ByteArray) (h0 : (([61] : List UInt8) == o.toList) = false) (h1 : (([33, 61] : List UInt8) == o.toList) = false) (h2 : (([60] : List UInt8) == o.toList) = true) (s : Bool) (t : ByteArray) (n : Int) (s' : Bool) (t' : ByteArray) (n' : Int) (w : World) (c : Int) (hC : cmpV s t.toList n s' t'.toList n' = c) :
    Calls Tryz.prog 6 #[.string o, .agg #[.bool s, .string t, .int .i64 n], .agg #[.bool s', .string t', .int .i64 n']] w fun e w' => e = .returned (.tuple #[.bool (decide (c < 0)), .bool true]) ∧ Below w.heap.size w w' := by
  have HB := Lib.hid (((Below.refl w.heap.size w).alloc (Nat.le_refl _) (.cells #[.bool s, .string t, .int .i64 n] 23)).alloc (by simp) (.cells #[.bool s', .string t', .int .i64 n'] 23))
  have EC := Lib.hid hC
  have hsf : ∀ (W : World) (a : Addr) (f : Fn) (x y : Array Value), (store a (.func f x y)).run Tryz.prog W = stored Tryz.prog W a (.func f x y) .plain := fun W a f x y => run_store_func f x y
  clear hC
  go_enter Tryz.func6, Tryz.ntmps6
  go_wp2_with fail
  refine (compare_calls _ _ _ _ _ _ _).mono ?_
  rintro e w2 ⟨rfl, hb⟩
  have hb2 := below_then HB.out hb HB.out.size
  have hz := hb2.size
  rw [EC.out]
  clear hb HB
  go_wp2_with fail
  refine wp_loop_rounds 3 ?_
  rw [rounds_succ]
  go_wp2_with fail
  rw [rounds_succ]
  go_wp2_with fail
  rw [rounds_succ]
  go_wp2_with fail
  refine (holds3_calls _ _).mono ?_
  rintro e w3 ⟨rfl, rfl⟩
  go_wp2_with fail
  refine bodyPost_ret (v := .tuple #[.bool (decide (c < 0)), .bool true]) (by simp [results, Tryz.results6, go_sem]) rfl ⟨rfl, ?_⟩
  (repeat (first | with_reducible assumption | with_reducible exact Below.refl _ _ | with_reducible apply Below.drew | (with_reducible refine Below.alloc ?_ ?_ _; rotate_left; focus ((first | omega | (simp <;> omega)); done))))

set_option maxRecDepth 100000 in
set_option maxHeartbeats 8000000 in
theorem holds_at3 (o : ByteArray) (h0 : (([61] : List UInt8) == o.toList) = false) (h1 : (([33, 61] : List UInt8) == o.toList) = false) (h2 : (([60] : List UInt8) == o.toList) = false) (h3 : (([60, 61] : List UInt8) == o.toList) = true) (s : Bool) (t : ByteArray) (n : Int) (s' : Bool) (t' : ByteArray) (n' : Int) (w : World) (c : Int) (hC : cmpV s t.toList n s' t'.toList n' = c) :
    Calls Tryz.prog 6 #[.string o, .agg #[.bool s, .string t, .int .i64 n], .agg #[.bool s', .string t', .int .i64 n']] w fun e w' => e = .returned (.tuple #[.bool (decide (c ≤ 0)), .bool true]) ∧ Below w.heap.size w w' := by
  have HB := Lib.hid (((Below.refl w.heap.size w).alloc (Nat.le_refl _) (.cells #[.bool s, .string t, .int .i64 n] 23)).alloc (by simp) (.cells #[.bool s', .string t', .int .i64 n'] 23))
  have EC := Lib.hid hC
  have hsf : ∀ (W : World) (a : Addr) (f : Fn) (x y : Array Value), (store a (.func f x y)).run Tryz.prog W = stored Tryz.prog W a (.func f x y) .plain := fun W a f x y => run_store_func f x y
  clear hC
  go_enter Tryz.func6, Tryz.ntmps6
  go_wp2_with fail
  refine (compare_calls _ _ _ _ _ _ _).mono ?_
  rintro e w2 ⟨rfl, hb⟩
  have hb2 := below_then HB.out hb HB.out.size
  have hz := hb2.size
  rw [EC.out]
  clear hb HB
  go_wp2_with fail
  refine wp_loop_rounds 4 ?_
  rw [rounds_succ]
  go_wp2_with fail
  rw [rounds_succ]
  go_wp2_with fail
  rw [rounds_succ]
  go_wp2_with fail
  rw [rounds_succ]
  go_wp2_with fail
  refine (holds4_calls _ _).mono ?_
  rintro e w3 ⟨rfl, rfl⟩
  go_wp2_with fail
  refine bodyPost_ret (v := .tuple #[.bool (decide (c ≤ 0)), .bool true]) (by simp [results, Tryz.results6, go_sem]) rfl ⟨rfl, ?_⟩
  (repeat (first | with_reducible assumption | with_reducible exact Below.refl _ _ | with_reducible apply Below.drew | (with_reducible refine Below.alloc ?_ ?_ _; rotate_left; focus ((first | omega | (simp <;> omega)); done))))

set_option maxRecDepth 100000 in
set_option maxHeartbeats 8000000 in
theorem holds_at4 (o : ByteArray) (h0 : (([61] : List UInt8) == o.toList) = false) (h1 : (([33, 61] : List UInt8) == o.toList) = false) (h2 : (([60] : List UInt8) == o.toList) = false) (h3 : (([60, 61] : List UInt8) == o.toList) = false) (h4 : (([62] : List UInt8) == o.toList) = true) (s : Bool) (t : ByteArray) (n : Int) (s' : Bool) (t' : ByteArray) (n' : Int) (w : World) (c : Int) (hC : cmpV s t.toList n s' t'.toList n' = c) :
    Calls Tryz.prog 6 #[.string o, .agg #[.bool s, .string t, .int .i64 n], .agg #[.bool s', .string t', .int .i64 n']] w fun e w' => e = .returned (.tuple #[.bool (decide (c > 0)), .bool true]) ∧ Below w.heap.size w w' := by
  have HB := Lib.hid (((Below.refl w.heap.size w).alloc (Nat.le_refl _) (.cells #[.bool s, .string t, .int .i64 n] 23)).alloc (by simp) (.cells #[.bool s', .string t', .int .i64 n'] 23))
  have EC := Lib.hid hC
  have hsf : ∀ (W : World) (a : Addr) (f : Fn) (x y : Array Value), (store a (.func f x y)).run Tryz.prog W = stored Tryz.prog W a (.func f x y) .plain := fun W a f x y => run_store_func f x y
  clear hC
  go_enter Tryz.func6, Tryz.ntmps6
  go_wp2_with fail
  refine (compare_calls _ _ _ _ _ _ _).mono ?_
  rintro e w2 ⟨rfl, hb⟩
  have hb2 := below_then HB.out hb HB.out.size
  have hz := hb2.size
  rw [EC.out]
  clear hb HB
  go_wp2_with fail
  refine wp_loop_rounds 5 ?_
  rw [rounds_succ]
  go_wp2_with fail
  rw [rounds_succ]
  go_wp2_with fail
  rw [rounds_succ]
  go_wp2_with fail
  rw [rounds_succ]
  go_wp2_with fail
  rw [rounds_succ]
  go_wp2_with fail
  refine (holds5_calls _ _).mono ?_
  rintro e w3 ⟨rfl, rfl⟩
  go_wp2_with fail
  refine bodyPost_ret (v := .tuple #[.bool (decide (c > 0)), .bool true]) (by simp [results, Tryz.results6, go_sem]) rfl ⟨rfl, ?_⟩
  (repeat (first | with_reducible assumption | with_reducible exact Below.refl _ _ | with_reducible apply Below.drew | (with_reducible refine Below.alloc ?_ ?_ _; rotate_left; focus ((first | omega | (simp <;> omega)); done))))

set_option maxRecDepth 100000 in
set_option maxHeartbeats 8000000 in
theorem holds_at5 (o : ByteArray) (h0 : (([61] : List UInt8) == o.toList) = false) (h1 : (([33, 61] : List UInt8) == o.toList) = false) (h2 : (([60] : List UInt8) == o.toList) = false) (h3 : (([60, 61] : List UInt8) == o.toList) = false) (h4 : (([62] : List UInt8) == o.toList) = false) (h5 : (([62, 61] : List UInt8) == o.toList) = true) (s : Bool) (t : ByteArray) (n : Int) (s' : Bool) (t' : ByteArray) (n' : Int) (w : World) (c : Int) (hC : cmpV s t.toList n s' t'.toList n' = c) :
    Calls Tryz.prog 6 #[.string o, .agg #[.bool s, .string t, .int .i64 n], .agg #[.bool s', .string t', .int .i64 n']] w fun e w' => e = .returned (.tuple #[.bool (decide (c ≥ 0)), .bool true]) ∧ Below w.heap.size w w' := by
  have HB := Lib.hid (((Below.refl w.heap.size w).alloc (Nat.le_refl _) (.cells #[.bool s, .string t, .int .i64 n] 23)).alloc (by simp) (.cells #[.bool s', .string t', .int .i64 n'] 23))
  have EC := Lib.hid hC
  have hsf : ∀ (W : World) (a : Addr) (f : Fn) (x y : Array Value), (store a (.func f x y)).run Tryz.prog W = stored Tryz.prog W a (.func f x y) .plain := fun W a f x y => run_store_func f x y
  clear hC
  go_enter Tryz.func6, Tryz.ntmps6
  go_wp2_with fail
  refine (compare_calls _ _ _ _ _ _ _).mono ?_
  rintro e w2 ⟨rfl, hb⟩
  have hb2 := below_then HB.out hb HB.out.size
  have hz := hb2.size
  rw [EC.out]
  clear hb HB
  go_wp2_with fail
  refine wp_loop_rounds 6 ?_
  rw [rounds_succ]
  go_wp2_with fail
  rw [rounds_succ]
  go_wp2_with fail
  rw [rounds_succ]
  go_wp2_with fail
  rw [rounds_succ]
  go_wp2_with fail
  rw [rounds_succ]
  go_wp2_with fail
  rw [rounds_succ]
  go_wp2_with fail
  refine (holds6_calls _ _).mono ?_
  rintro e w3 ⟨rfl, rfl⟩
  go_wp2_with fail
  refine bodyPost_ret (v := .tuple #[.bool (decide (c ≥ 0)), .bool true]) (by simp [results, Tryz.results6, go_sem]) rfl ⟨rfl, ?_⟩
  (repeat (first | with_reducible assumption | with_reducible exact Below.refl _ _ | with_reducible apply Below.drew | (with_reducible refine Below.alloc ?_ ?_ _; rotate_left; focus ((first | omega | (simp <;> omega)); done))))

set_option maxRecDepth 100000 in
set_option maxHeartbeats 8000000 in
theorem holds_at6 (o : ByteArray) (h0 : (([61] : List UInt8) == o.toList) = false) (h1 : (([33, 61] : List UInt8) == o.toList) = false) (h2 : (([60] : List UInt8) == o.toList) = false) (h3 : (([60, 61] : List UInt8) == o.toList) = false) (h4 : (([62] : List UInt8) == o.toList) = false) (h5 : (([62, 61] : List UInt8) == o.toList) = false) (s : Bool) (t : ByteArray) (n : Int) (s' : Bool) (t' : ByteArray) (n' : Int) (w : World) (c : Int) (hC : cmpV s t.toList n s' t'.toList n' = c) :
    Calls Tryz.prog 6 #[.string o, .agg #[.bool s, .string t, .int .i64 n], .agg #[.bool s', .string t', .int .i64 n']] w fun e w' => e = .returned (.tuple #[.bool false, .bool false]) ∧ Below w.heap.size w w' := by
  have HB := Lib.hid (((Below.refl w.heap.size w).alloc (Nat.le_refl _) (.cells #[.bool s, .string t, .int .i64 n] 23)).alloc (by simp) (.cells #[.bool s', .string t', .int .i64 n'] 23))
  have EC := Lib.hid hC
  have hsf : ∀ (W : World) (a : Addr) (f : Fn) (x y : Array Value), (store a (.func f x y)).run Tryz.prog W = stored Tryz.prog W a (.func f x y) .plain := fun W a f x y => run_store_func f x y
  clear hC
  go_enter Tryz.func6, Tryz.ntmps6
  go_wp2_with fail
  refine (compare_calls _ _ _ _ _ _ _).mono ?_
  rintro e w2 ⟨rfl, hb⟩
  have hb2 := below_then HB.out hb HB.out.size
  have hz := hb2.size
  rw [EC.out]
  clear hb HB
  go_wp2_with fail
  refine wp_loop_rounds 7 ?_
  rw [rounds_succ]
  go_wp2_with fail
  rw [rounds_succ]
  go_wp2_with fail
  rw [rounds_succ]
  go_wp2_with fail
  rw [rounds_succ]
  go_wp2_with fail
  rw [rounds_succ]
  go_wp2_with fail
  rw [rounds_succ]
  go_wp2_with fail
  rw [rounds_succ]
  go_wp2_with fail
  refine bodyPost_ret (v := .tuple #[.bool false, .bool false]) (by simp [results, Tryz.results6, go_sem]) rfl ⟨rfl, ?_⟩
  (repeat (first | with_reducible assumption | with_reducible exact Below.refl _ _ | with_reducible apply Below.drew | (with_reducible refine Below.alloc ?_ ?_ _; rotate_left; focus ((first | omega | (simp <;> omega)); done))))
end Go.Proofs.YtogobiijmdgfdaaGreatDoor.V
