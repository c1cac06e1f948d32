/- value.Holds: what any operator says of two values. Printed by genholds.py. printer.variable, bare, name, mayTerm: whether a name may be a variable's, a term may be. printer.mayTerm: whether a term may be. printer.all of terms, mayAtom. How long texts may be: with no program in sight. lambrequinref07.Term, Atom: texts piece by piece. printer.texts of terms: their texts, with commas between. printer.Atom: an atom's text. printer.Literal: a literal's text. lambrequinref07.Literal. printer.texts of literals: their texts, with commas between. lambrequinref07.Rule. The document's atom with terms: its loop. (printed by gen_r6d.py) -/
import Derived.LoopN
import Derived.Lib.ItoaLen
import Derived.Deep.RegionHeld3
import Derived.BigQuiet
import Derived.Deep.QuietTactic
import Derived.Deep.RegionWith
import Derived.Test.YtminbdcabacfbaaGreatDoorKG9
namespace Go.Proofs.YtminbdcabacfbaaGreatDoor.V
set_option linter.unusedVariables false
set_option linter.unusedSimpArgs false
open Go.RowKit

theorem run_store_func {P : Program} {w : World} {a : Addr} {m : Mode} (f : Fn) (x y : Array Value) : (store a (.func f x y) m).run P w = stored P w a (.func f x y) m := run_store P w a _ m rfl
theorem holds1_calls (c : Int) (w : World) : Calls Tryz.prog 142 #[.int .i64 c] w fun e w' => e = .returned (.bool (c == 0)) ∧ w = w' := by
  go_enter Tryz.func142, Tryz.ntmps142
  go_wp2_with fail
  go_ret
  exact ⟨rfl, rfl⟩
theorem holds2_calls (c : Int) (w : World) : Calls Tryz.prog 143 #[.int .i64 c] w fun e w' => e = .returned (.bool (c != 0)) ∧ w = w' := by
  go_enter Tryz.func143, Tryz.ntmps143
  go_wp2_with fail
  go_ret
  exact ⟨rfl, rfl⟩
theorem holds3_calls (c : Int) (w : World) : Calls Tryz.prog 144 #[.int .i64 c] w fun e w' => e = .returned (.bool (decide (c < 0))) ∧ w = w' := by
  go_enter Tryz.func144, Tryz.ntmps144
  go_wp2_with fail
  go_ret
  exact ⟨rfl, rfl⟩
theorem holds4_calls (c : Int) (w : World) : Calls Tryz.prog 145 #[.int .i64 c] w fun e w' => e = .returned (.bool (decide (c ≤ 0))) ∧ w = w' := by
  go_enter Tryz.func145, Tryz.ntmps145
  go_wp2_with fail
  go_ret
  exact ⟨rfl, rfl⟩
theorem holds5_calls (c : Int) (w : World) : Calls Tryz.prog 146 #[.int .i64 c] w fun e w' => e = .returned (.bool (decide (c > 0))) ∧ w = w' := by
  go_enter Tryz.func146, Tryz.ntmps146
  go_wp2_with fail
  go_ret
  exact ⟨rfl, rfl⟩
theorem holds6_calls (c : Int) (w : World) : Calls Tryz.prog 147 #[.int .i64 c] w fun e w' => e = .returned (.bool (decide (c ≥ 0))) ∧ w = w' := by
  go_enter Tryz.func147, Tryz.ntmps147
  go_wp2_with fail
  go_ret
  exact ⟨rfl, rfl⟩

set_option maxRecDepth 100000 in
set_option maxHeartbeats 8000000 in
theorem holds_at0 (o : ByteArray) (h0 : (([61] : List UInt8) == o.toList) = true) (s : Bool) (t : ByteArray) (n : Int) (s' : Bool) (t' : ByteArray) (n' : Int) (w : World) (c : Int) (hC : cmpV s t.toList n s' t'.toList n' = c) :
    Calls Tryz.prog 114 #[.string o, .agg #[.bool s, .string t, .int .i64 n], .agg #[.bool s', .string t', .int .i64 n']] w fun e w' => e = .returned (.tuple #[.bool (c == 0), .bool true]) ∧ Below w.heap.size w w' := by
  have HB := Lib.hid (((Below.refl w.heap.size w).alloc (Nat.le_refl _) (.cells #[.bool s, .string t, .int .i64 n] 43)).alloc (by simp) (.cells #[.bool s', .string t', .int .i64 n'] 43))
  have EC := Lib.hid hC
  have hsf : ∀ (W : World) (a : Addr) (f : Fn) (x y : Array Value), (store a (.func f x y)).run Tryz.prog W = stored Tryz.prog W a (.func f x y) .plain := fun W a f x y => run_store_func f x y
  clear hC
  go_enter Tryz.func114, Tryz.ntmps114
  go_wp2_with fail
  refine (compare_calls _ _ _ _ _ _ _).mono ?_
  rintro e w2 ⟨rfl, hb⟩
  have hb2 := below_then HB.out hb HB.out.size
  have hz := hb2.size
  rw [EC.out]
  clear hb HB
  go_wp2_with fail
  refine wp_loop_rounds 1 ?_
  rw [rounds_succ]
  go_wp2_with fail
  refine (holds1_calls _ _).mono ?_
  rintro e w3 ⟨rfl, rfl⟩
  go_wp2_with fail
  refine bodyPost_ret (v := .tuple #[.bool (c == 0), .bool true]) (by simp [results, Tryz.results114, go_sem]) rfl ⟨rfl, ?_⟩
  (repeat (first | with_reducible assumption | with_reducible exact Below.refl _ _ | with_reducible apply Below.drew | (with_reducible refine Below.alloc ?_ ?_ _; rotate_left; focus ((first | omega | (simp <;> omega)); done))))

set_option maxRecDepth 100000 in
set_option maxHeartbeats 8000000 in
theorem holds_at1 (o : ByteArray) (h0 : (([61] : List UInt8) == o.toList) = false) (h1 : (([33, 61] : List UInt8) == o.toList) = true) (s : Bool) (t : ByteArray) (n : Int) (s' : Bool) (t' : ByteArray) (n' : Int) (w : World) (c : Int) (hC : cmpV s t.toList n s' t'.toList n' = c) :
    Calls Tryz.prog 114 #[.string o, .agg #[.bool s, .string t, .int .i64 n], .agg #[.bool s', .string t', .int .i64 n']] w fun e w' => e = .returned (.tuple #[.bool (c != 0), .bool true]) ∧ Below w.heap.size w w' := by
  have HB := Lib.hid (((Below.refl w.heap.size w).alloc (Nat.le_refl _) (.cells #[.bool s, .string t, .int .i64 n] 43)).alloc (by simp) (.cells #[.bool s', .string t', .int .i64 n'] 43))
  have EC := Lib.hid hC
  have hsf : ∀ (W : World) (a : Addr) (f : Fn) (x y : Array Value), (store a (.func f x y)).run Tryz.prog W = stored Tryz.prog W a (.func f x y) .plain := fun W a f x y => run_store_func f x y
  clear hC
  go_enter Tryz.func114, Tryz.ntmps114
  go_wp2_with fail
  refine (compare_calls _ _ _ _ _ _ _).mono ?_
  rintro e w2 ⟨rfl, hb⟩
  have hb2 := below_then HB.out hb HB.out.size
  have hz := hb2.size
  rw [EC.out]
  clear hb HB
  go_wp2_with fail
  refine wp_loop_rounds 2 ?_
  rw [rounds_succ]
  go_wp2_with fail
  rw [rounds_succ]
  go_wp2_with fail
  refine (holds2_calls _ _).mono ?_
  rintro e w3 ⟨rfl, rfl⟩
  go_wp2_with fail
  refine bodyPost_ret (v := .tuple #[.bool (c != 0), .bool true]) (by simp [results, Tryz.results114, go_sem]) rfl ⟨rfl, ?_⟩
  (repeat (first | with_reducible assumption | with_reducible exact Below.refl _ _ | with_reducible apply Below.drew | (with_reducible refine Below.alloc ?_ ?_ _; rotate_left; focus ((first | omega | (simp <;> omega)); done))))

set_option maxRecDepth 100000 in
set_option maxHeartbeats 8000000 in
theorem holds_at2 (o : ByteArray) (h0 : (([61] : List UInt8) == o.toList) = false) (h1 : (([33, 61] : List UInt8) == o.toList) = false) (h2 : (([60] : List UInt8) == o.toList) = true) (s : Bool) (t : ByteArray) (n : Int) (s' : Bool) (t' : ByteArray) (n' : Int) (w : World) (c : Int) (hC : cmpV s t.toList n s' t'.toList n' = c) :
    Calls Tryz.prog 114 #[.string o, .agg #[.bool s, .string t, .int .i64 n], .agg #[.bool s', .string t', .int .i64 n']] w fun e w' => e = .returned (.tuple #[.bool (decide (c < 0)), .bool true]) ∧ Below w.heap.size w w' := by
  have HB := Lib.hid (((Below.refl w.heap.size w).alloc (Nat.le_refl _) (.cells #[.bool s, .string t, .int .i64 n] 43)).alloc (by simp) (.cells #[.bool s', .string t', .int .i64 n'] 43))
  have EC := Lib.hid hC
  have hsf : ∀ (W : World) (a : Addr) (f : Fn) (x y : Array Value), (store a (.func f x y)).run Tryz.prog W = stored Tryz.prog W a (.func f x y) .plain := fun W a f x y => run_store_func f x y
  clear hC
  go_enter Tryz.func114, Tryz.ntmps114
  go_wp2_with fail
  refine (compare_calls _ _ _ _ _ _ _).mono ?_
  rintro e w2 ⟨rfl, hb⟩
  have hb2 := below_then HB.out hb HB.out.size
  have hz := hb2.size
  rw [EC.out]
  clear hb HB
  go_wp2_with fail
  refine wp_loop_rounds 3 ?_
  rw [rounds_succ]
  go_wp2_with fail
  rw [rounds_succ]
  go_wp2_with fail
  rw [rounds_succ]
  go_wp2_with fail
  refine (holds3_calls _ _).mono ?_
  rintro e w3 ⟨rfl, rfl⟩
  go_wp2_with fail
  refine bodyPost_ret (v := .tuple #[.bool (decide (c < 0)), .bool true]) (by simp [results, Tryz.results114, go_sem]) rfl ⟨rfl, ?_⟩
  (repeat (first | with_reducible assumption | with_reducible exact Below.refl _ _ | with_reducible apply Below.drew | (with_reducible refine Below.alloc ?_ ?_ _; rotate_left; focus ((first | omega | (simp <;> omega)); done))))

set_option maxRecDepth 100000 in
set_option maxHeartbeats 8000000 in
theorem holds_at3 (o : ByteArray) (h0 : (([61] : List UInt8) == o.toList) = false) (h1 : (([33, 61] : List UInt8) == o.toList) = false) (h2 : (([60] : List UInt8) == o.toList) = false) (h3 : (([60, 61] : List UInt8) == o.toList) = true) (s : Bool) (t : ByteArray) (n : Int) (s' : Bool) (t' : ByteArray) (n' : Int) (w : World) (c : Int) (hC : cmpV s t.toList n s' t'.toList n' = c) :
    Calls Tryz.prog 114 #[.string o, .agg #[.bool s, .string t, .int .i64 n], .agg #[.bool s', .string t', .int .i64 n']] w fun e w' => e = .returned (.tuple #[.bool (decide (c ≤ 0)), .bool true]) ∧ Below w.heap.size w w' := by
  have HB := Lib.hid (((Below.refl w.heap.size w).alloc (Nat.le_refl _) (.cells #[.bool s, .string t, .int .i64 n] 43)).alloc (by simp) (.cells #[.bool s', .string t', .int .i64 n'] 43))
  have EC := Lib.hid hC
  have hsf : ∀ (W : World) (a : Addr) (f : Fn) (x y : Array Value), (store a (.func f x y)).run Tryz.prog W = stored Tryz.prog W a (.func f x y) .plain := fun W a f x y => run_store_func f x y
  clear hC
  go_enter Tryz.func114, Tryz.ntmps114
  go_wp2_with fail
  refine (compare_calls _ _ _ _ _ _ _).mono ?_
  rintro e w2 ⟨rfl, hb⟩
  have hb2 := below_then HB.out hb HB.out.size
  have hz := hb2.size
  rw [EC.out]
  clear hb HB
  go_wp2_with fail
  refine wp_loop_rounds 4 ?_
  rw [rounds_succ]
  go_wp2_with fail
  rw [rounds_succ]
  go_wp2_with fail
  rw [rounds_succ]
  go_wp2_with fail
  rw [rounds_succ]
  go_wp2_with fail
  refine (holds4_calls _ _).mono ?_
  rintro e w3 ⟨rfl, rfl⟩
  go_wp2_with fail
  refine bodyPost_ret (v := .tuple #[.bool (decide (c ≤ 0)), .bool true]) (by simp [results, Tryz.results114, go_sem]) rfl ⟨rfl, ?_⟩
  (repeat (first | with_reducible assumption | with_reducible exact Below.refl _ _ | with_reducible apply Below.drew | (with_reducible refine Below.alloc ?_ ?_ _; rotate_left; focus ((first | omega | (simp <;> omega)); done))))

set_option maxRecDepth 100000 in
set_option maxHeartbeats 8000000 in
theorem holds_at4 (o : ByteArray) (h0 : (([61] : List UInt8) == o.toList) = false) (h1 : (([33, 61] : List UInt8) == o.toList) = false) (h2 : (([60] : List UInt8) == o.toList) = false) (h3 : (([60, 61] : List UInt8) == o.toList) = false) (h4 : (([62] : List UInt8) == o.toList) = true) (s : Bool) (t : ByteArray) (n : Int) (s' : Bool) (t' : ByteArray) (n' : Int) (w : World) (c : Int) (hC : cmpV s t.toList n s' t'.toList n' = c) :
    Calls Tryz.prog 114 #[.string o, .agg #[.bool s, .string t, .int .i64 n], .agg #[.bool s', .string t', .int .i64 n']] w fun e w' => e = .returned (.tuple #[.bool (decide (c > 0)), .bool true]) ∧ Below w.heap.size w w' := by
  have HB := Lib.hid (((Below.refl w.heap.size w).alloc (Nat.le_refl _) (.cells #[.bool s, .string t, .int .i64 n] 43)).alloc (by simp) (.cells #[.bool s', .string t', .int .i64 n'] 43))
  have EC := Lib.hid hC
  have hsf : ∀ (W : World) (a : Addr) (f : Fn) (x y : Array Value), (store a (.func f x y)).run Tryz.prog W = stored Tryz.prog W a (.func f x y) .plain := fun W a f x y => run_store_func f x y
  clear hC
  go_enter Tryz.func114, Tryz.ntmps114
  go_wp2_with fail
  refine (compare_calls _ _ _ _ _ _ _).mono ?_
  rintro e w2 ⟨rfl, hb⟩
  have hb2 := below_then HB.out hb HB.out.size
  have hz := hb2.size
  rw [EC.out]
  clear hb HB
  go_wp2_with fail
  refine wp_loop_rounds 5 ?_
  rw [rounds_succ]
  go_wp2_with fail
  rw [rounds_succ]
  go_wp2_with fail
  rw [rounds_succ]
  go_wp2_with fail
  rw [rounds_succ]
  go_wp2_with fail
  rw [rounds_succ]
  go_wp2_with fail
  refine (holds5_calls _ _).mono ?_
  rintro e w3 ⟨rfl, rfl⟩
  go_wp2_with fail
  refine bodyPost_ret (v := .tuple #[.bool (decide (c > 0)), .bool true]) (by simp [results, Tryz.results114, go_sem]) rfl ⟨rfl, ?_⟩
  (repeat (first | with_reducible assumption | with_reducible exact Below.refl _ _ | with_reducible apply Below.drew | (with_reducible refine Below.alloc ?_ ?_ _; rotate_left; focus ((first | omega | (simp <;> omega)); done))))

set_option maxRecDepth 100000 in
set_option maxHeartbeats 8000000 in
theorem holds_at5 (o : ByteArray) (h0 : (([61] : List UInt8) == o.toList) = false) (h1 : (([33, 61] : List UInt8) == o.toList) = false) (h2 : (([60] : List UInt8) == o.toList) = false) (h3 : (([60, 61] : List UInt8) == o.toList) = false) (h4 : (([62] : List UInt8) == o.toList) = false) (h5 : (([62, 61] : List UInt8) == o.toList) = true) (s : Bool) (t : ByteArray) (n : Int) (s' : Bool) (t' : ByteArray) (n' : Int) (w : World) (c : Int) (hC : cmpV s t.toList n s' t'.toList n' = c) :
    Calls Tryz.prog 114 #[.string o, .agg #[.bool s, .string t, .int .i64 n], .agg #[.bool s', .string t', .int .i64 n']] w fun e w' => e = .returned (.tuple #[.bool (decide (c ≥ 0)), .bool true]) ∧ Below w.heap.size w w' := by
  have HB := Lib.hid (((Below.refl w.heap.size w).alloc (Nat.le_refl _) (.cells #[.bool s, .string t, .int .i64 n] 43)).alloc (by simp) (.cells #[.bool s', .string t', .int .i64 n'] 43))
  have EC := Lib.hid hC
  have hsf : ∀ (W : World) (a : Addr) (f : Fn) (x y : Array Value), (store a (.func f x y)).run Tryz.prog W = stored Tryz.prog W a (.func f x y) .plain := fun W a f x y => run_store_func f x y
  clear hC
  go_enter Tryz.func114, Tryz.ntmps114
  go_wp2_with fail
  refine (compare_calls _ _ _ _ _ _ _).mono ?_
  rintro e w2 ⟨rfl, hb⟩
  have hb2 := below_then HB.out hb HB.out.size
  have hz := hb2.size
  rw [EC.out]
  clear hb HB
  go_wp2_with fail
  refine wp_loop_rounds 6 ?_
  rw [rounds_succ]
  go_wp2_with fail
  rw [rounds_succ]
  go_wp2_with fail
  rw [rounds_succ]
  go_wp2_with fail
  rw [rounds_succ]
  go_wp2_with fail
  rw [rounds_succ]
  go_wp2_with fail
  rw [rounds_succ]
  go_wp2_with fail
  refine (holds6_calls _ _).mono ?_
  rintro e w3 ⟨rfl, rfl⟩
  go_wp2_with fail
  refine bodyPost_ret (v := .tuple #[.bool (decide (c ≥ 0)), .bool true]) (by simp [results, Tryz.results114, go_sem]) rfl ⟨rfl, ?_⟩
  (repeat (first | with_reducible assumption | with_reducible exact Below.refl _ _ | with_reducible apply Below.drew | (with_reducible refine Below.alloc ?_ ?_ _; rotate_left; focus ((first | omega | (simp <;> omega)); done))))

set_option maxRecDepth 100000 in
set_option maxHeartbeats 8000000 in
theorem holds_at6 (o : ByteArray) (h0 : (([61] : List UInt8) == o.toList) = false) (h1 : (([33, 61] : List UInt8) == o.toList) = false) (h2 : (([60] : List UInt8) == o.toList) = false) (h3 : (([60, 61] : List UInt8) == o.toList) = false) (h4 : (([62] : List UInt8) == o.toList) = false) (h5 : (([62, 61] : List UInt8) == o.toList) = false) (s : Bool) (t : ByteArray) (n : Int) (s' : Bool) (t' : ByteArray) (n' : Int) (w : World) (c : Int) (hC : cmpV s t.toList n s' t'.toList n' = c) :
    Calls Tryz.prog 114 #[.string o, .agg #[.bool s, .string t, .int .i64 n], .agg #[.bool s', .string t', .int .i64 n']] w fun e w' => e = .returned (.tuple #[.bool false, .bool false]) ∧ Below w.heap.size w w' := by
  have HB := Lib.hid (((Below.refl w.heap.size w).alloc (Nat.le_refl _) (.cells #[.bool s, .string t, .int .i64 n] 43)).alloc (by simp) (.cells #[.bool s', .string t', .int .i64 n'] 43))
  have EC := Lib.hid hC
  have hsf : ∀ (W : World) (a : Addr) (f : Fn) (x y : Array Value), (store a (.func f x y)).run Tryz.prog W = stored Tryz.prog W a (.func f x y) .plain := fun W a f x y => run_store_func f x y
  clear hC
  go_enter Tryz.func114, Tryz.ntmps114
  go_wp2_with fail
  refine (compare_calls _ _ _ _ _ _ _).mono ?_
  rintro e w2 ⟨rfl, hb⟩
  have hb2 := below_then HB.out hb HB.out.size
  have hz := hb2.size
  rw [EC.out]
  clear hb HB
  go_wp2_with fail
  refine wp_loop_rounds 7 ?_
  rw [rounds_succ]
  go_wp2_with fail
  rw [rounds_succ]
  go_wp2_with fail
  rw [rounds_succ]
  go_wp2_with fail
  rw [rounds_succ]
  go_wp2_with fail
  rw [rounds_succ]
  go_wp2_with fail
  rw [rounds_succ]
  go_wp2_with fail
  rw [rounds_succ]
  go_wp2_with fail
  refine bodyPost_ret (v := .tuple #[.bool false, .bool false]) (by simp [results, Tryz.results114, go_sem]) rfl ⟨rfl, ?_⟩
  (repeat (first | with_reducible assumption | with_reducible exact Below.refl _ _ | with_reducible apply Below.drew | (with_reducible refine Below.alloc ?_ ?_ _; rotate_left; focus ((first | omega | (simp <;> omega)); done))))
end Go.Proofs.YtminbdcabacfbaaGreatDoor.V

namespace Go.Proofs.YtminbdcabacfbaaGreatDoor.V
set_option linter.unusedVariables false
set_option linter.unusedSimpArgs false
open Go.RowKit

theorem varL_plain (c : UInt8) (r : List UInt8) : varL (c :: r) = (decide ((c :: r).length ≤ 32) && ofB bgI c && plainL (97 :: r)) := by
  have h : plainL (97 :: r) = r.all (ofB wrdI) := by
    show (!((97 :: r) == [110, 111, 116]) && smallI ((97 : UInt8).toNat : Int) && r.all fun b => wordI (b.toNat : Int)) = _
    have h1 : ((97 :: r) == ([110, 111, 116] : List UInt8)) = false := by rw [beq_eq_false_iff_ne]; intro e; injection e with e; exact absurd e (by decide)
    rw [h1, show smallI ((97 : UInt8).toNat : Int) = true from by decide]
    simp only [Bool.not_false, Bool.true_and]
    exact congrArg (List.all r) (funext fun b => wordI_of b)
  rw [h]
  rfl
set_option maxRecDepth 100000 in
set_option maxHeartbeats 4000000 in
theorem prVar_calls (x : List UInt8) (w : World) (hx : x.length ≤ 1099511627776) :
    Calls Tryz.prog 138 #[.string (bs x)] w fun e w' => e = .returned (.bool (varL x)) ∧ Below w.heap.size w w' := by
  cases x with
  | nil =>
    have h0 : (bs []).toList = [] := bs_list []
    go_enter Tryz.func138, Tryz.ntmps138
    go_wp2_with fail
    go_ret
    exact ⟨rfl, Below.refl _ _⟩
  | cons c r =>
    obtain ⟨s, hs⟩ : ∃ s, bs (c :: r) = s := ⟨_, rfl⟩
    have h0 : ¬ s.toList = [] := by rw [← hs, bs_list]; simp
    have hem : s.toList.isEmpty = false := by rw [← hs, bs_list]; rfl
    have hz : s.size = r.length + 1 := by rw [← hs, bs_size]; rfl
    have hp : 0 < s.size := by omega
    have hp1 : 1 ≤ (s.size : Int) := by omega
    have hb : (s[0]'hp).toNat = c.toNat := by subst hs; rfl
    have hm : ¬ 9223372036854775807 < 1 + (s.size - 1) := by simp only [List.length_cons] at hx; omega
    have HV := Lib.hid (varL_plain c r)
    have HP := Lib.hid (show ∀ W, Calls Tryz.prog 76 #[.string (⟨#[97]⟩ ++ s.extract 1 s.size)] W (fun e w' => e = .returned (.bool (plainL (97 :: r))) ∧ Below W.heap.size W w') from fun W => by
      have he : (⟨#[97]⟩ ++ s.extract 1 s.size : ByteArray) = bs (97 :: r) := by
        subst hs
        apply ByteArray.ext
        simp [bs, ByteArray.data_append, ByteArray.size]
      rw [he]
      have := plain_calls (bs (97 :: r)) W (by rw [bs_size]; simp only [List.length_cons] at hx ⊢; unfold maxLen; omega)
      exact this)
    rw [hs]
    by_cases hl : (s.size : Int) ≤ 32
    · by_cases h1 : 65 ≤ ((s[0]'hp).toNat : Int)
      · by_cases h2 : ((s[0]'hp).toNat : Int) ≤ 90
        · have HE := Lib.hid (show varL (c :: r) = plainL (97 :: r) by
            rw [HV.out, decide_eq_true (by simp only [List.length_cons]; omega), show ofB bgI c = true from by simp only [ofB, bgI]; simp; omega]
            rfl)
          clear hs hz hb hx
          go_enter Tryz.func138, Tryz.ntmps138
          go_wp2_with (go_at_call 76; ((with_reducible refine (HP.out _).mono ?_); rintro e w2 ⟨rfl, hb2⟩; have HB2 := Lib.hid hb2; clear hb2))
          go_ret
          exact ⟨by rw [HE.out]; rfl, HB2.out⟩
        · have HE := Lib.hid (show varL (c :: r) = false by
            rw [HV.out, show ofB bgI c = false from by simp only [ofB, bgI]; simp; omega]
            simp)
          clear hs hz hb hx
          go_enter Tryz.func138, Tryz.ntmps138
          go_wp2_with fail
          go_ret
          exact ⟨by rw [HE.out]; rfl, Below.refl _ _⟩
      · have HE := Lib.hid (show varL (c :: r) = false by
          rw [HV.out, show ofB bgI c = false from by simp only [ofB, bgI]; simp; omega]
          simp)
        clear hs hz hb hx
        go_enter Tryz.func138, Tryz.ntmps138
        go_wp2_with fail
        go_ret
        exact ⟨by rw [HE.out]; rfl, Below.refl _ _⟩
    · have HE := Lib.hid (show varL (c :: r) = false by
        rw [HV.out, decide_eq_false (by simp only [List.length_cons]; omega)]
        rfl)
      clear hs hz hb hx
      go_enter Tryz.func138, Tryz.ntmps138
      go_wp2_with fail
      go_ret
      exact ⟨by rw [HE.out]; rfl, Below.refl _ _⟩

set_option maxRecDepth 100000 in
set_option maxHeartbeats 4000000 in
theorem prBare_calls (s : Bool) (y : List UInt8) (n : Int) (w : World) :
    Calls Tryz.prog 139 #[.agg #[.bool s, .string (bs y), .int .i64 n]] w fun e w' => e = .returned (.bool (if s then n == 0 else y.isEmpty)) ∧ Below w.heap.size w w' := by
  have HB := Lib.hid ((Below.refl w.heap.size w).alloc (Nat.le_refl _) (.cells #[.bool s, .string (bs y), .int .i64 n] 43))
  have HY := Lib.hid (show (bs y).toList.isEmpty = y.isEmpty by rw [bs_list])
  cases s with
  | true =>
    go_enter Tryz.func139, Tryz.ntmps139
    go_wp2_with fail
    go_ret
    exact ⟨rfl, HB.out⟩
  | false =>
    go_enter Tryz.func139, Tryz.ntmps139
    go_wp2_with fail
    go_ret
    exact ⟨by rw [← HY.out]; rfl, HB.out⟩

set_option maxRecDepth 100000 in
set_option maxHeartbeats 4000000 in
theorem prName_calls (p : List UInt8) (w : World) (hp : p.length ≤ 1099511627776) :
    Calls Tryz.prog 45 #[.string (bs p)] w fun e w' => e = .returned (.bool (nameL p)) ∧ Below w.heap.size w w' := by
  have HP := Lib.hid (fun (W : World) => (show Calls Tryz.prog 76 #[.string (bs p)] W (fun e w' => e = .returned (.bool (plainL p)) ∧ Below W.heap.size W w') from plain_calls (bs p) W (by rw [bs_size]; unfold maxLen; omega)))
  cases hv : plainL p with
  | false =>
    have HE := Lib.hid (show nameL p = false by unfold nameL; rw [hv]; rfl)
    have HV := Lib.hid hv
    clear hv
    go_enter Tryz.func45, Tryz.ntmps45
    go_wp2_with (go_at_call 76; ((with_reducible refine (HP.out _).mono ?_); rw [HV.out]; rintro e w2 ⟨rfl, hb2⟩; have HB2 := Lib.hid hb2; clear hb2))
    go_ret
    exact ⟨by rw [HE.out]; rfl, HB2.out⟩
  | true =>
    have HE := Lib.hid (show nameL p = decide (((bs p).size : Int) ≤ 32) by unfold nameL; rw [hv, bs_size, Bool.true_and, decide_eq_decide]; omega)
    have HV := Lib.hid hv
    clear hv
    go_enter Tryz.func45, Tryz.ntmps45
    go_wp2_with (go_at_call 76; ((with_reducible refine (HP.out _).mono ?_); rw [HV.out]; rintro e w2 ⟨rfl, hb2⟩; have HB2 := Lib.hid hb2; clear hb2))
    go_ret
    exact ⟨by rw [HE.out]; rfl, HB2.out⟩
end Go.Proofs.YtminbdcabacfbaaGreatDoor.V

namespace Go.Proofs.YtminbdcabacfbaaGreatDoor.V
set_option linter.unusedVariables false
set_option linter.unusedSimpArgs false
open Go.RowKit

set_option maxRecDepth 100000 in
set_option maxHeartbeats 4000000 in
theorem prMayT_calls (t : TermL) (w : World) (hx : t.x.length ≤ 1099511627776) :
    Calls Tryz.prog 111 #[.agg #[.bool t.v, .string (bs t.x), .bool t.s, .string (bs t.t), .int .i64 t.n]] w fun e w' => e = .returned (.bool (mayT t)) ∧ Below w.heap.size w w' := by
  obtain ⟨v, x, s, y, n⟩ := t
  dsimp only at hx ⊢
  have hbl := (Below.refl w.heap.size w).alloc (Nat.le_refl _) (.cells #[.bool v, .string (bs x), .bool s, .string (bs y), .int .i64 n] 45)
  have hnw := heap_alloc_new w (.cells #[.bool v, .string (bs x), .bool s, .string (bs y), .int .i64 n] 45)
  have HB0 := Lib.hid hbl
  have HNW := Lib.hid hnw
  have HX : (bs x).toList.isEmpty = x.isEmpty := by rw [bs_list]
  have HY : (bs y).toList.isEmpty = y.isEmpty := by rw [bs_list]
  have hbx : (bs x).toList = x := bs_list x
  have hby : (bs y).toList = y := bs_list y
  have HVAR := Lib.hid (fun (W : World) => prVar_calls x W hx)
  have HBARE := Lib.hid (fun (W : World) => prBare_calls s y n W)
  clear hbl hnw hx
  cases v with
  | true =>
    cases hv : varL x with
    | false =>
      have HE := Lib.hid (show mayT ⟨true, x, s, y, n⟩ = false by unfold mayT; rw [if_pos rfl, hv]; rfl)
      have HV := Lib.hid hv
      clear hv
      go_enter Tryz.func111, Tryz.ntmps111
      go_wp2_with (go_at_call 138; ((with_reducible refine (HVAR.out _).mono ?_); rw [HV.out]; rintro e w2 ⟨rfl, hb2⟩; have HB2 := Lib.hid (HB0.out.trans (hb2.mono HB0.out.size)); clear hb2))
      go_ret
      exact ⟨by rw [HE.out]; rfl, HB2.out⟩
    | true =>
      have HE := Lib.hid (show mayT ⟨true, x, s, y, n⟩ = (!s && y.isEmpty && n == 0) by unfold mayT; rw [if_pos rfl, hv]; rfl)
      have HV := Lib.hid hv
      clear hv
      go_enter Tryz.func111, Tryz.ntmps111
      go_wp2_with (go_at_call 138; ((with_reducible refine (HVAR.out _).mono ?_); rw [HV.out]; rintro e w2 ⟨rfl, hb2⟩; have HB2 := Lib.hid (HB0.out.trans (hb2.mono HB0.out.size)); have e2 := cell_below hb2 (cell_of_row _ _ 2 _ _ _ HNW.out); have e3 := cell_below hb2 (cell_of_row _ _ 3 _ _ _ HNW.out); have e4 := cell_below hb2 (cell_of_row _ _ 4 _ _ _ HNW.out); clear hb2))
      all_goals
        go_ret
        refine ⟨?_, HB2.out⟩
        have hv2 := HV.out
        simp_all [mayT]
  | false =>
    cases hv : x.isEmpty with
    | false =>
      have hne : ¬ (bs x).toList = [] := by rw [bs_list]; intro e; subst e; cases hv
      have HE := Lib.hid (show mayT ⟨false, x, s, y, n⟩ = false by unfold mayT; rw [if_neg (show ¬ false = true by decide), hv]; rfl)
      clear hv HX HY hbx hby
      go_enter Tryz.func111, Tryz.ntmps111
      go_wp2_with fail
      go_ret
      exact ⟨by rw [HE.out]; rfl, HB0.out⟩
    | true =>
      have hne : (bs x).toList = [] := by rw [bs_list]; exact List.isEmpty_iff.1 hv
      have hne2 : (bs x).toList.isEmpty = true := by rw [hne]; rfl
      have HE2 := Lib.hid (List.isEmpty_iff.1 hv)
      have HE := Lib.hid (show mayT ⟨false, x, s, y, n⟩ = (if s then n == 0 else y.isEmpty) by unfold mayT; rw [if_neg (show ¬ false = true by decide), hv]; rfl)
      clear hv HX HY hbx hby
      go_enter Tryz.func111, Tryz.ntmps111
      go_wp2_with (go_at_call 139; ((with_reducible refine (HBARE.out _).mono ?_); rintro e w2 ⟨rfl, hb2⟩; have HB2 := Lib.hid (HB0.out.trans (hb2.mono HB0.out.size)); clear hb2))
      all_goals
        go_ret
        refine ⟨?_, HB2.out⟩
        have hv2 := HE2.out
        simp_all [mayT]
end Go.Proofs.YtminbdcabacfbaaGreatDoor.V

namespace Go.Proofs.YtminbdcabacfbaaGreatDoor.V
set_option linter.unusedVariables false
set_option linter.unusedSimpArgs false
open Go.RowKit

/-- Things whose texts are not too great. -/
def TermSz (t : TermL) : Prop := t.x.length ≤ 1099511627776
def AtomSz (a : AtomL) : Prop := a.p.length ≤ 1099511627776 ∧ a.a.length < 1000000000 ∧ ∀ t ∈ a.a, TermSz t
def LitSz (l : LitL) : Prop := AtomSz l.a ∧ TermSz l.l ∧ TermSz l.r
def RuleSz (r : RuleL) : Prop := AtomSz r.h ∧ r.b.length < 1000000000 ∧ ∀ l ∈ r.b, LitSz l
def DeclSz (d : DeclL) : Prop := d.p.length ≤ 1099511627776

set_option maxRecDepth 100000 in
set_option maxHeartbeats 4000000 in
theorem allCT_calls  (t : TermL) (r : Nat) (w : World) (hr : w.cell? ⟨r, 0, none⟩ = some (.func (.func 111) #[] #[])) (hs : TermSz t) :
    Calls Tryz.prog 137 #[.agg #[.bool t.v, .string (bs t.x), .bool t.s, .string (bs t.t), .int .i64 t.n], .pointer (some ⟨r, 0, none⟩)] w fun e w' => e = .returned (.bool (!(mayT t))) ∧ Below w.heap.size w w' := by
  have hbl := (Below.refl w.heap.size w).alloc (Nat.le_refl _) (.cells #[.bool t.v, .string (bs t.x), .bool t.s, .string (bs t.t), .int .i64 t.n] 45)
  have hnw := heap_alloc_new w (.cells #[.bool t.v, .string (bs t.x), .bool t.s, .string (bs t.t), .int .i64 t.n] 45)
  have HB0 := Lib.hid hbl
  have hr1 := cell_below hbl hr

  have d0 := cell_of_row _ _ 0 _ _ _ hnw
  have d1 := cell_of_row _ _ 1 _ _ _ hnw
  have d2 := cell_of_row _ _ 2 _ _ _ hnw
  have d3 := cell_of_row _ _ 3 _ _ _ hnw
  have d4 := cell_of_row _ _ 4 _ _ _ hnw
  have HF := Lib.hid (fun (W : World) => prMayT_calls t W hs)
  clear hbl hnw hr hs
  go_enter Tryz.func137, Tryz.ntmps137
  go_wp2_with (go_at_call 111; ((with_reducible refine (HF.out _ ).mono ?_); rintro e w2 ⟨rfl, hb2⟩; have HB2 := Lib.hid (HB0.out.trans (hb2.mono HB0.out.size)); clear hb2))
  go_ret
  exact ⟨rfl, HB2.out⟩

set_option maxRecDepth 100000 in
set_option maxHeartbeats 8000000 in
theorem allIT_calls (A : Option Addr) (n c r : Nat) (L : List TermL) (w : World) (hr : w.cell? ⟨r, 0, none⟩ = some (.func (.func 111) #[] #[])) (hn : n = L.length) (hT : TermsRd w A L) (hok : ∀ t ∈ L, TermSz t) (hn2 : n < 1000000000) :
    Calls Tryz.prog 164 #[.slice A n c, .func (.func 137) #[] #[.pointer (some ⟨r, 0, none⟩)]] w fun e w' => ∃ k : Int, e = .returned (.int .i64 k) ∧ decide (0 ≤ k) = !(L.all mayT) ∧ Below w.heap.size w w' := by
  have HT := Lib.hid hT
  have HOK := Lib.hid hok
  have HN := Lib.hid hn
  have HR := Lib.hid hr
  clear hT hok hn hr
  go_enter Tryz.func164, Tryz.ntmps164
  go_wp2_with fail
  go_loopw [8] (fun i wr => ∃ k : Nat, k ≤ n ∧ i = .int .i64 (k : Int) ∧ (L.take k).all mayT = true ∧ Below w.heap.size w wr) (fun i _ => n + 1 - (intOf i).toNat)
  case atStart => exact ⟨0, Nat.zero_le _, rfl, rfl, Below.refl _ _⟩
  case round =>
    obtain ⟨k, hk, rfl, hall, hb⟩ := hrel
    have HB := Lib.hid hb
    by_cases hlt : k < n
    · have hd : decide ((k : Int) < (n : Int)) = true := decide_eq_true (by omega)
      obtain ⟨t, hx⟩ : ∃ t, L[k]? = some t := ⟨_, List.getElem?_eq_getElem (by rw [← HN.out]; exact hlt)⟩
      obtain ⟨a, rfl, hh⟩ := HT.out k t hx
      have hh2 := hh.below hb
      have hgt := HOK.out t (List.mem_of_getElem? hx)
      have hsn : (L.take (k + 1)).all mayT = mayT t := by
        rw [List.take_add_one, List.all_append, hall, hx]
        simp
      have hmt : t ∈ L := List.mem_of_getElem? hx
      have HRr := Lib.hid (cell_below hb HR.out)
      have HC := Lib.hid (fun (W : World) (hr : W.cell? ⟨r, 0, none⟩ = some (.func (.func 111) #[] #[])) => allCT_calls t r W hr hgt)
      have d0 := hh2.c0
      have d1 := hh2.c1
      have d2 := hh2.c2
      have d3 := hh2.c3
      have d4 := hh2.c4
      cases hv : mayT t with
      | true =>
        rw [hv] at hsn
        have HV := Lib.hid hv
        have HSN := Lib.hid hsn
        clear hb hh hh2 hgt hx hall hv hsn hmt
        go_wp2_with (go_at_call 137; ((with_reducible refine (HC.out _ HRr.out).mono ?_); rw [HV.out]; rintro e w2 ⟨rfl, hb2⟩; have HB2 := Lib.hid (HB.out.trans (hb2.mono HB.out.size)); clear hb2))
        go_roundw
        case rel => exact ⟨k + 1, hlt, by simp, HSN.out, HB2.out⟩
        case measure => simp [intOf]; omega
      | false =>
        have HV := Lib.hid hv
        have HALL := Lib.hid (show L.all mayT = false by
          rw [List.all_eq_false]
          exact ⟨t, hmt, by rw [hv]; simp⟩)
        clear hb hh hh2 hgt hx hall hv hsn hmt
        go_wp2_with (go_at_call 137; ((with_reducible refine (HC.out _ HRr.out).mono ?_); rw [HV.out]; rintro e w2 ⟨rfl, hb2⟩; have HB2 := Lib.hid (HB.out.trans (hb2.mono HB.out.size)); clear hb2))
        go_ret
        exact ⟨(k : Int), rfl, by rw [HALL.out]; exact decide_eq_true (by omega), HB2.out⟩
    · have hkn : k = n := by omega
      subst hkn
      have hd : decide ((k : Int) < (k : Int)) = false := decide_eq_false (by omega)
      have htk : L.take k = L := List.take_of_length_le (by rw [← HN.out]; exact Nat.le_refl _)
      rw [htk] at hall
      have HALL := Lib.hid hall
      clear hb hlt hk hall htk
      go_wp2_with fail
      go_ret
      exact ⟨-1, rfl, by rw [HALL.out]; decide, HB.out⟩
set_option maxRecDepth 100000 in
set_option maxHeartbeats 4000000 in
theorem allFT_calls (A : Option Addr) (n c r : Nat) (L : List TermL) (w : World) (hr : w.cell? ⟨r, 0, none⟩ = some (.func (.func 111) #[] #[])) (hn : n = L.length) (hT : TermsRd w A L) (hok : ∀ t ∈ L, TermSz t) (hn2 : n < 1000000000) :
    Calls Tryz.prog 136 #[.slice A n c, .func (.func 137) #[] #[.pointer (some ⟨r, 0, none⟩)]] w fun e w' => e = .returned (.bool (!(L.all mayT))) ∧ Below w.heap.size w w' := by
  have HI := Lib.hid (allIT_calls A n c r L w hr hn hT hok hn2)
  clear hr hn hT hok
  go_enter Tryz.func136, Tryz.ntmps136
  go_wp2_with (go_at_call 164; ((with_reducible refine HI.out.mono ?_); rintro e w2 ⟨k, rfl, hk, hb2⟩; have HB2 := Lib.hid hb2; have HK := Lib.hid hk; clear hb2 hk))
  go_ret
  exact ⟨by rw [← HK.out]; rfl, HB2.out⟩
set_option maxRecDepth 100000 in
set_option maxHeartbeats 4000000 in
theorem allT_calls (A : Option Addr) (n c : Nat) (L : List TermL) (w : World) (hn : n = L.length) (hT : TermsRd w A L) (hok : ∀ t ∈ L, TermSz t) (hn2 : n < 1000000000) :
    Calls Tryz.prog 110 #[.slice A n c, .func (.func 111) #[] #[]] w fun e w' => e = .returned (.bool (L.all mayT)) ∧ Below w.heap.size w w' := by
  have hbl := (Below.refl w.heap.size w).alloc (Nat.le_refl _) (.cells #[.func (.func 111) #[] #[]] 128)
  have hnw := heap_alloc_new w (.cells #[.func (.func 111) #[] #[]] 128)
  have HB0 := Lib.hid hbl
  have HI := Lib.hid (allFT_calls A n c w.heap.size L _ (cell_of_row _ _ 0 _ _ _ hnw) hn (hT.below hbl) hok hn2)
  clear hbl hnw hn hT hok
  go_enter Tryz.func110, Tryz.ntmps110
  go_wp2_with (go_at_call 136; ((with_reducible refine HI.out.mono ?_); rintro e w2 ⟨rfl, hb2⟩; have HB2 := Lib.hid (HB0.out.trans (hb2.mono HB0.out.size)); clear hb2))
  go_ret
  refine ⟨?_, HB2.out⟩
  simp

set_option maxRecDepth 100000 in
set_option maxHeartbeats 8000000 in
theorem prMayA_calls (A : Option Addr) (n c : Nat) (x : AtomL) (w : World) (hn : n = x.a.length) (hT : TermsRd w A x.a) (hs : AtomSz x) :
    Calls Tryz.prog 81 #[.agg #[.string (bs x.p), .slice A n c]] w fun e w' => e = .returned (.bool (mayA x)) ∧ Below w.heap.size w w' := by
  have hbl := (Below.refl w.heap.size w).alloc (Nat.le_refl _) (.cells #[.string (bs x.p), .slice A n c] 25)
  have hnw := heap_alloc_new w (.cells #[.string (bs x.p), .slice A n c] 25)
  have HB0 := Lib.hid hbl
  have HT0 := Lib.hid (hT.below hbl)
  have HNW := Lib.hid hnw
  have d0 := cell_of_row _ _ 0 _ _ _ hnw
  have HNM := Lib.hid (fun (W : World) => prName_calls x.p W hs.1)
  have HAL := Lib.hid (fun (W : World) (h : TermsRd W A x.a) => allT_calls A n c x.a W hn h hs.2.2 (by rw [hn]; exact hs.2.1))
  have hE : mayA x = (nameL x.p && decide ((n : Int) ≤ 6) && x.a.all mayT) := by
    unfold mayA
    rw [show decide (x.a.length ≤ 6) = decide ((n : Int) ≤ 6) from by rw [decide_eq_decide]; omega]
  clear hbl hnw hT hs hn
  cases hv : nameL x.p with
  | false =>
    have HV := Lib.hid hv
    have HE := Lib.hid (show mayA x = false by rw [hE, hv]; rfl)
    clear hv hE
    go_enter Tryz.func81, Tryz.ntmps81
    go_wp2_with (go_at_call 45; ((with_reducible refine (HNM.out _).mono ?_); rw [HV.out]; rintro e w2 ⟨rfl, hb2⟩; have HB2 := Lib.hid (HB0.out.trans (hb2.mono HB0.out.size)); clear hb2))
    go_ret
    exact ⟨by rw [HE.out]; rfl, HB2.out⟩
  | true =>
    by_cases h6 : (n : Int) ≤ 6
    · have HV := Lib.hid hv
      have HE := Lib.hid (show mayA x = x.a.all mayT by rw [hE, hv, decide_eq_true h6]; rfl)
      clear hv hE
      go_enter Tryz.func81, Tryz.ntmps81
      go_wp2_with (first
        | (go_at_call 45; ((with_reducible refine (HNM.out _).mono ?_); rw [HV.out]; rintro e w2 ⟨rfl, hb2⟩; have HB2 := Lib.hid (HB0.out.trans (hb2.mono HB0.out.size)); have HT2 := Lib.hid (HT0.out.below hb2); have e1 := cell_below hb2 (cell_of_row _ _ 1 _ _ _ HNW.out); clear hb2))
        | (go_at_call 110; ((with_reducible refine (HAL.out _ HT2.out).mono ?_); rintro e w3 ⟨rfl, hb3⟩; have HB3 := Lib.hid (HB2.out.trans (hb3.mono HB2.out.size)); clear hb3)))
      go_ret
      exact ⟨by rw [HE.out]; rfl, HB3.out⟩
    · have HV := Lib.hid hv
      have HE := Lib.hid (show mayA x = false by rw [hE, hv, decide_eq_false h6]; rfl)
      clear hv hE
      go_enter Tryz.func81, Tryz.ntmps81
      go_wp2_with (go_at_call 45; ((with_reducible refine (HNM.out _).mono ?_); rw [HV.out]; rintro e w2 ⟨rfl, hb2⟩; have HB2 := Lib.hid (HB0.out.trans (hb2.mono HB0.out.size)); have e1 := cell_below hb2 (cell_of_row _ _ 1 _ _ _ HNW.out); clear hb2))
      go_ret
      exact ⟨by rw [HE.out]; rfl, HB2.out⟩
end Go.Proofs.YtminbdcabacfbaaGreatDoor.V

namespace Go.Proofs.YtminbdcabacfbaaGreatDoor.V
set_option linter.unusedVariables false
set_option linter.unusedSimpArgs false

def wT (t : TermL) : Nat := t.x.length + 2 * t.t.length + 24
def wA (a : AtomL) : Nat := a.p.length + 4 + (a.a.map wT).sum
def wL (l : LitL) : Nat := wA l.a + l.o.length + wT l.l + wT l.r + 8
def wR (r : RuleL) : Nat := wA r.h + 8 + (r.b.map wL).sum
def wD (d : DeclL) : Nat := d.p.length + 30
def wP (ds : List DeclL) (rs : List RuleL) : Nat := (ds.map wD).sum + (rs.map wR).sum
def nOk (n : Int) : Prop := -9223372036854775808 ≤ n ∧ n ≤ 9223372036854775807
def nA (a : AtomL) : Prop := ∀ t ∈ a.a, nOk t.n
def nL (l : LitL) : Prop := nA l.a ∧ nOk l.l.n ∧ nOk l.r.n
def nR (r : RuleL) : Prop := nA r.h ∧ ∀ l ∈ r.b, nL l
def nP (ds : List DeclL) (rs : List RuleL) : Prop := (∀ d ∈ ds, nOk d.n) ∧ ∀ r ∈ rs, nR r

theorem lenT_term (t : TermL) (h : nOk t.n) : (termT t).length + 2 ≤ wT t := by
  have h2 := escL_le2 t.t
  have h3 := Lib.itoa_length_le t.n h.1 h.2
  unfold termT wT textL
  split
  · omega
  · split
    · omega
    · split
      · omega
      · simp
        omega
theorem sepT_len {α : Type} (f : α → List UInt8) (w : α → Nat) : ∀ (l : List α), (∀ x ∈ l, (f x).length + 2 ≤ w x) → (sepT cmaT (l.map f)).length ≤ (l.map w).sum
  | [], _ => by simp [sepT]
  | [x], h => by
    have := h x (List.mem_cons_self ..)
    simp [sepT]
    omega
  | x :: y :: r, h => by
    have h1 := h x (List.mem_cons_self ..)
    have h2 := sepT_len f w (y :: r) fun z hz => h z (List.mem_cons_of_mem _ hz)
    have h3 : (sepT cmaT (f y :: r.map f)).length ≤ ((y :: r).map w).sum := h2
    have e : ((x :: y :: r).map w).sum = w x + ((y :: r).map w).sum := by rw [List.map_cons, List.sum_cons]
    rw [e, List.map_cons, List.map_cons, sepT, List.length_append, List.length_append]
    have : cmaT.length = 2 := rfl
    omega
theorem lenT_atom (a : AtomL) (h : nA a) : (atomT a).length + 2 ≤ wA a := by
  have h1 := sepT_len termT wT a.a fun t ht => lenT_term t (h t ht)
  unfold atomT wA
  split
  · omega
  · simp only [List.length_append, List.length_singleton]
    omega
theorem lenT_lit (l : LitL) (h : nL l) : (litT l).length + 2 ≤ wL l := by
  have h1 := lenT_atom l.a h.1
  have h2 := lenT_term l.l h.2.1
  have h3 := lenT_term l.r h.2.2
  unfold litT wL
  split
  · omega
  · split
    · simp only [List.length_append, List.length_cons, List.length_nil]
      omega
    · split
      · simp only [List.length_append, List.length_cons, List.length_nil]
        omega
      · simp
theorem lenT_rule (r : RuleL) (h : nR r) : (ruleT r).length + 1 ≤ wR r := by
  have h1 := lenT_atom r.h h.1
  have h2 := sepT_len litT wL r.b fun t ht => lenT_lit t (h.2 t ht)
  unfold ruleT wR
  split
  · simp only [List.length_append, List.length_singleton]
    omega
  · simp only [List.length_append, List.length_cons, List.length_nil]
    omega
theorem lenT_decl (d : DeclL) (h : nOk d.n) : (declT d).length + 1 ≤ wD d := by
  have h3 := Lib.itoa_length_le d.n h.1 h.2
  unfold declT wD
  simp only [List.length_append, List.length_cons, List.length_nil]
  omega
theorem flat_len {α : Type} (f : α → List UInt8) (w : α → Nat) : ∀ (l : List α), (∀ x ∈ l, (f x).length + 1 ≤ w x) → (l.flatMap fun x => f x ++ [10]).length ≤ (l.map w).sum
  | [], _ => by simp
  | x :: r, h => by
    have h1 := h x (List.mem_cons_self ..)
    have h2 := flat_len f w r fun z hz => h z (List.mem_cons_of_mem _ hz)
    rw [List.flatMap_cons, List.length_append, List.length_append, List.map_cons, List.sum_cons]
    have : ([10] : List UInt8).length = 1 := rfl
    omega
theorem lenT_prog (ds : List DeclL) (rs : List RuleL) (h : nP ds rs) : (prgT ds rs).length ≤ wP ds rs := by
  have h1 := flat_len declT wD ds fun d hd => lenT_decl d (h.1 d hd)
  have h2 := flat_len ruleT wR rs fun r hr => lenT_rule r (h.2 r hr)
  unfold prgT wP
  rw [List.length_append]
  omega
theorem sum_mem {α : Type} (w : α → Nat) {x : α} : ∀ {l : List α}, x ∈ l → w x ≤ (l.map w).sum
  | [], h => by cases h
  | y :: r, h => by
    rw [List.map_cons, List.sum_cons]
    rcases List.mem_cons.1 h with rfl | h
    · omega
    · have := sum_mem w h
      omega

theorem termOk_of {t : TermL} (h : nOk t.n) (hl : wT t ≤ 1099511627776) : TermOk t := ⟨by unfold wT at hl; omega, h⟩
theorem atomOk_of {a : AtomL} (h : nA a) (hl : wA a ≤ 1099511627776) (hn : a.a.length < 1000000000) : AtomOk a := by
  refine ⟨hn, fun t ht => termOk_of (h t ht) ?_⟩
  have := sum_mem wT ht
  unfold wA at hl
  omega
theorem litOk_of {l : LitL} (h : nL l) (hl : wL l ≤ 1099511627776) (hn : l.a.a.length < 1000000000) : LitOk' l := by
  unfold wL at hl
  exact ⟨atomOk_of h.1 (by omega) hn, termOk_of h.2.1 (by omega), termOk_of h.2.2 (by omega)⟩
theorem ruleOk_of {r : RuleL} (h : nR r) (hl : wR r ≤ 1099511627776) (hn : r.h.a.length < 1000000000) (hb : r.b.length < 1000000000) (hbb : ∀ l ∈ r.b, l.a.a.length < 1000000000) : RuleOk' r := by
  unfold wR at hl
  refine ⟨atomOk_of h.1 (by omega) hn, hb, fun l hll => litOk_of (h.2 l hll) ?_ (hbb l hll)⟩
  have := sum_mem wL hll
  omega
theorem termSz_of {t : TermL} (hl : wT t ≤ 1099511627776) : TermSz t := by unfold TermSz; unfold wT at hl; omega
theorem atomSz_of {a : AtomL} (hl : wA a ≤ 1099511627776) (hn : a.a.length < 1000000000) : AtomSz a := by
  refine ⟨by unfold wA at hl; omega, hn, fun t ht => termSz_of ?_⟩
  have := sum_mem wT ht
  unfold wA at hl
  omega
theorem litSz_of {l : LitL} (hl : wL l ≤ 1099511627776) (hn : l.a.a.length < 1000000000) : LitSz l := by
  unfold wL at hl
  exact ⟨atomSz_of (by omega) hn, termSz_of (by omega), termSz_of (by omega)⟩
theorem ruleSz_of {r : RuleL} (hl : wR r ≤ 1099511627776) (hn : r.h.a.length < 1000000000) (hb : r.b.length < 1000000000) (hbb : ∀ l ∈ r.b, l.a.a.length < 1000000000) : RuleSz r := by
  unfold wR at hl
  refine ⟨atomSz_of (by omega) hn, hb, fun l hll => litSz_of ?_ (hbb l hll)⟩
  have := sum_mem wL hll
  omega
/-- A program whose texts are not too great. -/
structure ProgOk (ds : List DeclL) (rs : List RuleL) : Prop where
  n : nP ds rs
  w : wP ds rs ≤ 1099511627776
  d : ds.length < 1000000000
  r : rs.length < 1000000000
  l : ∀ r ∈ rs, r.h.a.length < 1000000000 ∧ r.b.length < 1000000000 ∧ ∀ l ∈ r.b, l.a.a.length < 1000000000
theorem wA_len (a : AtomL) : a.a.length * 24 ≤ wA a := by
  have : ∀ l : List TermL, l.length * 24 ≤ (l.map wT).sum := by
    intro l
    induction l with
    | nil => simp
    | cons x r ih => rw [List.map_cons, List.sum_cons, List.length_cons, Nat.succ_mul]; unfold wT at *; omega
  have h := this a.a
  unfold wA
  omega
end Go.Proofs.YtminbdcabacfbaaGreatDoor.V

namespace Go.Proofs.YtminbdcabacfbaaGreatDoor.V
set_option linter.unusedVariables false
set_option linter.unusedSimpArgs false
open Go.RowKit

/-- A text behind which pieces come, one by one. -/
def accT (p op : List UInt8) (L : List (List UInt8)) : List UInt8 := if L = [] then p else p ++ op ++ sepT cmaT L
theorem sepT_snoc (m x : List UInt8) : ∀ (M : List (List UInt8)), M ≠ [] → sepT m (M ++ [x]) = sepT m M ++ m ++ x
  | [], h => absurd rfl h
  | [y], _ => by simp [sepT]
  | y :: z :: r, _ => by
    have h := sepT_snoc m x (z :: r) (by simp)
    rw [show (y :: z :: r) ++ [x] = y :: z :: (r ++ [x]) from rfl, sepT, show z :: (r ++ [x]) = (z :: r) ++ [x] from rfl, h, sepT]
    simp
theorem acc_zero (p op : List UInt8) (L : List (List UInt8)) : accT p op (L.take 0) = p := if_pos rfl
theorem acc_first {p op : List UInt8} {L : List (List UInt8)} {k : Nat} {x : List UInt8} (h0 : k = 0) (h : L[k]? = some x) : accT p op (L.take (k + 1)) = (accT p op (L.take k) ++ op) ++ x := by
  subst h0
  rw [acc_zero, List.take_add_one, h, List.take_zero]
  rfl
theorem acc_next {p op : List UInt8} {L : List (List UInt8)} {k : Nat} {x : List UInt8} (h0 : ¬ k = 0) (h : L[k]? = some x) : accT p op (L.take (k + 1)) = (accT p op (L.take k) ++ cmaT) ++ x := by
  have hne : L.take k ≠ [] := fun e => by
    have hl : k < L.length := (List.getElem?_eq_some_iff.1 h).1
    have := congrArg List.length e
    rw [List.length_take, List.length_nil] at this
    omega
  unfold accT
  rw [List.take_add_one (i := k), h, if_neg hne, if_neg (by simp), Option.toList_some, sepT_snoc _ _ _ hne]
  simp
theorem acc_up (p op : List UInt8) (L : List (List UInt8)) (k : Nat) : (accT p op (L.take k)).length ≤ (accT p op (L.take (k + 1))).length := by
  by_cases h : k < L.length
  · obtain ⟨x, hx⟩ : ∃ x, L[k]? = some x := ⟨_, List.getElem?_eq_getElem h⟩
    by_cases h0 : k = 0
    · rw [acc_first h0 hx]; simp only [List.length_append]; omega
    · rw [acc_next h0 hx]; simp only [List.length_append]; omega
  · rw [List.take_of_length_le (by omega), List.take_of_length_le (by omega)]
    exact Nat.le_refl _
theorem acc_le (p op : List UInt8) (L : List (List UInt8)) (k : Nat) : (accT p op (L.take k)).length ≤ (accT p op L).length := by
  have h : ∀ d, (accT p op (L.take k)).length ≤ (accT p op (L.take (k + d))).length := fun d => by
    induction d with
    | zero => exact Nat.le_refl _
    | succ d ih => exact Nat.le_trans ih (acc_up p op L (k + d))
  have h2 := h L.length
  rwa [List.take_of_length_le (i := k + L.length) (by omega)] at h2
theorem add_bs (a b : List UInt8) (h : a.length + b.length ≤ 140737488355328) (W : World) : (Op.stringOp .add (bs a) (bs b)).run Tryz.prog W = .ok (.string (bs (a ++ b))) W := by
  have ha := bs_size a
  have hb := bs_size b
  rw [run_string_add_sum W _ _ (by omega), bs_append]

set_option maxRecDepth 100000 in
set_option maxHeartbeats 4000000 in
theorem rfTerm_calls (t : TermL) (w : World) (hok : TermOk t) (hsm : wT t ≤ 1000000000) :
    Calls Tryz.prog 25 #[termPV t] w fun e w' => e = .returned (.string (bs (termT t))) ∧ Below w.heap.size w w' := by
  obtain ⟨v, x, s, y, n⟩ := t
  show Calls Tryz.prog 25 #[.agg #[.bool v, .string (bs x), .bool s, .string (bs y), .int .i64 n]] w _
  have hbl := (Below.refl w.heap.size w).alloc (Nat.le_refl _) (.cells #[.bool v, .string (bs x), .bool s, .string (bs y), .int .i64 n] 45)
  have HB := Lib.hid hbl
  have HOK := Lib.hid (show (bs y).size ≤ 274877906944 ∧ -9223372036854775808 ≤ n ∧ n ≤ 9223372036854775807 by
    rw [bs_size]
    unfold wT at hsm
    dsimp only at hsm
    exact ⟨by omega, hok.2⟩)
  clear hbl hok hsm
  cases v with
  | true =>
    go_enter Tryz.func25, Tryz.ntmps25
    go_wp2_with fail
    go_ret
    exact ⟨rfl, HB.out⟩
  | false =>
    go_enter Tryz.func25, Tryz.ntmps25
    go_wp2_with (go_at_call 55; ((with_reducible refine (refText_calls s (bs y) n _ HOK.out.1 HOK.out.2.1 HOK.out.2.2).mono ?_); rintro e w2 ⟨rfl, hb⟩; have HB2 := Lib.hid (HB.out.trans (hb.mono HB.out.size)); clear hb))
    go_ret
    exact ⟨rfl, HB2.out⟩

set_option maxRecDepth 100000 in
set_option maxHeartbeats 8000000 in
theorem rfAtom_calls (A : Option Addr) (n c : Nat) (x : AtomL) (w : World) (hn : n = x.a.length) (hT : TermsRd w A x.a) (hok : AtomOk x) (hsm : wA x ≤ 1000000000) (hbig : (atomT x).length ≤ 140737488355328) :
    Calls Tryz.prog 27 #[.agg #[.string (bs x.p), .slice A n c]] w fun e w' => e = .returned (.string (bs (atomT x))) ∧ Below w.heap.size w w' := by
  obtain ⟨p, l⟩ := x
  dsimp only at hn hT ⊢
  have hbl := (Below.refl w.heap.size w).alloc (Nat.le_refl _) (.cells #[.string (bs p), .slice A n c] 25)
  have HB0 := Lib.hid hbl
  have HA := Lib.hid (IsAt.new (v0 := .string (bs p)) (v1 := .slice A n c) w)
  have HT := Lib.hid (hT.below hbl)
  have HN := Lib.hid hn
  have HOK := Lib.hid (fun (t : TermL) (ht : t ∈ l) => (show TermOk t ∧ wT t ≤ 1000000000 from ⟨hok.2 t ht, by
    have h1 := sum_mem wT ht
    unfold wA at hsm
    dsimp only at hsm
    omega⟩))
  have hn2 : n < 1000000000 := by rw [hn]; exact hok.1
  have HACC := Lib.hid (show (accT p [40] (l.map termT)).length ≤ 140737488355328 from by
    refine Nat.le_trans ?_ hbig
    unfold accT atomT
    by_cases h : l = []
    · subst h; simp
    · rw [if_neg h, if_neg (by simpa using h)]
      simp only [List.length_append]
      omega)
  have HEND := Lib.hid (show 0 < n → ∀ W, (Op.stringOp .add (bs (accT p [40] (l.map termT))) ⟨#[41]⟩).run Tryz.prog W = .ok (.string (bs (atomT ⟨p, l⟩))) W from fun h0 W => by
    have hne : l ≠ [] := fun e => by subst e; simp at hn; omega
    have e : atomT ⟨p, l⟩ = accT p [40] (l.map termT) ++ [41] := by
      unfold atomT accT
      rw [if_neg hne, if_neg (by simpa using hne)]
    rw [e] at hbig ⊢
    rw [List.length_append] at hbig
    exact add_bs _ [41] hbig W)
  have HNIL := Lib.hid (show n = 0 → bs (accT p [40] (l.map termT)) = bs (atomT ⟨p, l⟩) from fun h0 => by
    have hne : l = [] := List.length_eq_zero_iff.1 (by omega)
    subst hne
    rfl)
  have hw0g : ∃ w0, w.alloc (.cells #[.string (bs p), .slice A n c] 25) = w0 := ⟨_, rfl⟩
  clear hbl hn hT hok hbig hsm
  go_enter Tryz.func27, Tryz.ntmps27
  go_wp2_with fail
  obtain ⟨w0, hw0⟩ := hw0g
  rw [hw0] at HB0 HA HT ⊢
  go_loopw [3, 4] (fun o i wr => ∃ k : Nat, k ≤ n ∧ i = .int .i64 (k : Int) ∧ o = .string (bs (accT p [40] ((l.map termT).take k))) ∧ Below w0.heap.size w0 wr) (fun _ i _ => n + 1 - (intOf i).toNat)
  case atStart => exact ⟨0, Nat.zero_le _, rfl, by rw [acc_zero], Below.refl _ _⟩
  case round =>
    obtain ⟨k, hk, rfl, rfl, hb⟩ := hrel
    have HB := Lib.hid hb
    have a1 := cell_below hb HA.out.c1
    by_cases hlt : k < n
    · have hd : decide ((k : Int) < (n : Int)) = true := decide_eq_true (by omega)
      obtain ⟨t, hx⟩ : ∃ t, l[k]? = some t := ⟨_, List.getElem?_eq_getElem (by rw [← HN.out]; exact hlt)⟩
      obtain ⟨g, rfl, hc⟩ := HT.out k t hx
      have hc' := hc.below hb
      have hxt : (l.map termT)[k]? = some (termT t) := by rw [List.getElem?_map, hx]; rfl
      have hle := acc_le p [40] (l.map termT) (k + 1)
      have hacc := HACC.out
      have HTC := Lib.hid (fun W => rfTerm_calls t W (HOK.out t (List.mem_of_getElem? hx)).1 (HOK.out t (List.mem_of_getElem? hx)).2)
      have hcall : ∀ W, Calls Tryz.prog 25 #[.agg #[.bool t.v, .string (bs t.x), .bool t.s, .string (bs t.t), .int .i64 t.n]] W fun e w' => e = .returned (.string (bs (termT t))) ∧ Below W.heap.size W w' := HTC.out
      have HC := Lib.hid hcall
      obtain ⟨E, hE⟩ : ∃ E, bs (termT t) = E := ⟨_, rfl⟩
      rw [hE] at HC
      obtain ⟨X, hX⟩ : ∃ X, bs (accT p [40] ((l.map termT).take k)) = X := ⟨_, rfl⟩
      obtain ⟨Z, hZ⟩ : ∃ Z, bs (accT p [40] ((l.map termT).take (k + 1))) = Z := ⟨_, rfl⟩
      rw [hX]
      have p0 := hc'.c0
      have p1 := hc'.c1
      have p2 := hc'.c2
      have p3 := hc'.c3
      have p4 := hc'.c4
      by_cases hk0 : k = 0
      · have he := acc_first (p := p) (op := [40]) hk0 hxt
        have hkd : ((k : Int) == 0) = true := by rw [hk0]; rfl
        rw [he] at hle hZ
        simp only [List.length_append] at hle
        have a40 : ∀ W, (Op.stringOp .add X ⟨#[40]⟩).run Tryz.prog W = .ok (.string (bs (accT p [40] ((l.map termT).take k) ++ [40]))) W := fun W => by rw [← hX]; exact add_bs _ [40] (by omega) W
        obtain ⟨Y, hY⟩ : ∃ Y, bs (accT p [40] ((l.map termT).take k) ++ [40]) = Y := ⟨_, rfl⟩
        have a41 : ∀ W, (Op.stringOp .add Y E).run Tryz.prog W = .ok (.string Z) W := fun W => by rw [← hY, ← hE, ← hZ]; exact add_bs _ _ (by simp only [List.length_append]; omega) W
        rw [hY] at a40
        have HZ := Lib.hid (show Value.string Z = .string (bs (accT p [40] ((l.map termT).take (k + 1)))) by rw [he, hZ])
        clear hb hc hc' hx hxt hle hacc hcall hE hX hZ hY he HTC hk0
        go_wp2_with (go_at_call 25; ((with_reducible refine (HC.out _).mono ?_); rintro e w2 ⟨rfl, hb2⟩; have HB2 := Lib.hid (HB.out.trans (hb2.mono HB.out.size)); clear hb2))
        go_roundw
        case rel => exact ⟨k + 1, hlt, by simp, HZ.out, HB2.out⟩
        case measure => simp [intOf]; omega
      · have he := acc_next (p := p) (op := [40]) hk0 hxt
        have hkd : ((k : Int) == 0) = false := beq_eq_false_iff_ne.2 (by omega)
        rw [he] at hle hZ
        simp only [List.length_append] at hle
        have a40 : ∀ W, (Op.stringOp .add X ⟨#[44, 32]⟩).run Tryz.prog W = .ok (.string (bs (accT p [40] ((l.map termT).take k) ++ cmaT))) W := fun W => by rw [← hX]; exact add_bs _ cmaT (by omega) W
        obtain ⟨Y, hY⟩ : ∃ Y, bs (accT p [40] ((l.map termT).take k) ++ cmaT) = Y := ⟨_, rfl⟩
        have a41 : ∀ W, (Op.stringOp .add Y E).run Tryz.prog W = .ok (.string Z) W := fun W => by rw [← hY, ← hE, ← hZ]; exact add_bs _ _ (by simp only [List.length_append]; omega) W
        rw [hY] at a40
        have HZ := Lib.hid (show Value.string Z = .string (bs (accT p [40] ((l.map termT).take (k + 1)))) by rw [he, hZ])
        clear hb hc hc' hx hxt hle hacc hcall hE hX hZ hY he HTC hk0
        go_wp2_with (go_at_call 25; ((with_reducible refine (HC.out _).mono ?_); rintro e w2 ⟨rfl, hb2⟩; have HB2 := Lib.hid (HB.out.trans (hb2.mono HB.out.size)); clear hb2))
        go_roundw
        case rel => exact ⟨k + 1, hlt, by simp, HZ.out, HB2.out⟩
        case measure => simp [intOf]; omega
    · have hkn : n = k := by omega
      subst hkn
      have hd : decide ((n : Int) < (n : Int)) = false := decide_eq_false (by omega)
      have hall : (l.map termT).take n = l.map termT := List.take_of_length_le (by rw [List.length_map, ← HN.out]; exact Nat.le_refl _)
      rw [hall]
      by_cases h0 : n = 0
      · have hg : decide ((0 : Int) < (n : Int)) = false := decide_eq_false (by omega)
        have hg2 : decide (0 < n) = false := decide_eq_false (by omega)
        rw [HNIL.out h0]
        clear hb hlt hk hall h0
        go_wp2_with fail
        go_ret
        exact ⟨rfl, HB0.out.trans (HB.out.mono HB0.out.size)⟩
      · have hg : decide ((0 : Int) < (n : Int)) = true := decide_eq_true (by omega)
        have hg2 : decide (0 < n) = true := decide_eq_true (by omega)
        have hend := HEND.out (by omega)
        obtain ⟨X, hX⟩ : ∃ X, bs (accT p [40] (l.map termT)) = X := ⟨_, rfl⟩
        rw [hX] at hend ⊢
        clear hb hlt hk hall h0 hX
        go_wp2_with fail
        go_ret
        exact ⟨rfl, HB0.out.trans (HB.out.mono HB0.out.size)⟩
end Go.Proofs.YtminbdcabacfbaaGreatDoor.V

namespace Go.Proofs.YtminbdcabacfbaaGreatDoor.V
set_option linter.unusedVariables false
set_option linter.unusedSimpArgs false
open Go.RowKit

set_option maxRecDepth 100000 in
set_option maxHeartbeats 8000000 in
theorem prTextsT_calls (A : Option Addr) (n c : Nat) (L : List TermL) (w : World) (hn : n = L.length) (hT : TermsRd w A L) (hok : ∀ t ∈ L, TermOk t) (hn2 : n < 1000000000) (hbig : (sepT cmaT (L.map termT)).length ≤ 140737488355328) (hw : TabW w) :
    Calls Tryz.prog 56 #[.slice A n c, .func (.func 24) #[] #[]] w fun e w' => e = .returned (.string (bs (sepT cmaT (L.map termT)))) ∧ Below w.heap.size w w' := by
  have HT := Lib.hid hT
  have HOK := Lib.hid hok
  have HN := Lib.hid hn
  have HBIG := Lib.hid hbig
  have HW := Lib.hid hw
  clear hT hok hn hbig hw
  go_enter Tryz.func56, Tryz.ntmps56
  go_wp2_with fail
  go_loopw [5, 10] (fun v i wr => ∃ (k : Nat) (Ao : Option Addr) (co : Nat), k ≤ n ∧ i = .int .i64 (k : Int) ∧ v = .slice Ao k co ∧ wr.ownsRow w.heap.size 9 1 (.slice Ao k co) k (strV ((L.map termT).take k)) ∧ Below w.heap.size w wr) (fun _ i _ => n + 1 - (intOf i).toNat)
  case atStart => exact ⟨0, none, 0, Nat.zero_le _, rfl, rfl, World.ownsRow_nil _ _ _ _, Below.refl _ _⟩
  case round =>
    obtain ⟨k, Ao, co, hk, rfl, rfl, how, hb⟩ := hrel
    have HOW := Lib.hid how
    have HB := Lib.hid hb
    by_cases hlt : k < n
    · have hd : decide ((k : Int) < (n : Int)) = true := decide_eq_true (by omega)
      obtain ⟨t, hx⟩ : ∃ t, L[k]? = some t := ⟨_, List.getElem?_eq_getElem (by rw [← HN.out]; exact hlt)⟩
      obtain ⟨a, rfl, hh⟩ := HT.out k t hx
      have hh2 := hh.below hb
      have hgt := HOK.out t (List.mem_of_getElem? hx)
      obtain ⟨E, hE⟩ : ∃ E, bs (termT t) = E := ⟨_, rfl⟩
      have HSN := Lib.hid (show strV ((L.map termT).take (k + 1)) = strV ((L.map termT).take k) ++ [.string E] by
        unfold strV
        rw [List.take_add_one, List.map_append, List.getElem?_map, hx, ← hE]
        rfl)
      have HWr := Lib.hid (HW.out.below hb)
      have HTO := Lib.hid (fun (W : World) (h : TabW W) => (show Calls Tryz.prog 24 #[.agg #[.bool t.v, .string (bs t.x), .bool t.s, .string (bs t.t), .int .i64 t.n]] W (fun e w' => e = .returned (.string E) ∧ Below W.heap.size W w') from by rw [← hE]; exact prTerm_calls t W hgt h))
      have d0 := hh2.c0
      have d1 := hh2.c1
      have d2 := hh2.c2
      have d3 := hh2.c3
      have d4 := hh2.c4
      clear how hb hh hh2 hgt hE hx
      go_wp2_with (first
        | (go_at_call 24; ((with_reducible refine (HTO.out _ (HWr.out.below ((Below.refl wr.heap.size wr).alloc (Nat.le_refl _) (.cells #[.bool t.v, .string (bs t.x), .bool t.s, .string (bs t.t), .int .i64 t.n] 45)))).mono ?_); rintro e w2 ⟨rfl, hb2⟩; have HOW2 := Lib.hid (o_kb (HOW.out.alloc (.cells #[.bool t.v, .string (bs t.x), .bool t.s, .string (bs t.t), .int .i64 t.n] 45)) hb2); have HB2 := Lib.hid ((HB.out.alloc HB.out.size (.cells #[.bool t.v, .string (bs t.x), .bool t.s, .string (bs t.t), .int .i64 t.n] 45)).trans (hb2.mono (Nat.le_trans HB.out.size (by simp)))); clear hb2))
        | (refine o_app (W := w2) rfl (.tmp 14) (.tmp 18) 124 9 rfl (.string ⟨#[]⟩) 1 16 Tryz.underlying124 str_info rfl (by decide) (by decide) #[.string E] rfl (by intro u hu; simp at hu; subst hu; rfl) (.slice Ao k co) k (strV ((L.map termT).take k)) (by rfl) HOW2.out (by rfl) (by omega) HB2.out.size ?_; intro A3 c3 w3 how3 hg3; have HOW3 := Lib.hid (show w3.ownsRow w.heap.size 9 1 (.slice A3 (k + 1) c3) (k + 1) (strV ((L.map termT).take (k + 1))) by rw [HSN.out]; exact how3); have HB3 := Lib.hid (HB2.out.grown hg3 HB2.out.size (o_from HOW2.out)); clear how3 hg3))
      go_roundw
      case rel => exact ⟨k + 1, _, _, hlt, by simp, rfl, HOW3.out, HB3.out⟩
      case measure => simp [intOf]; omega
    · have hkn : k = n := by omega
      subst hkn
      have hd : decide ((k : Int) < (k : Int)) = false := decide_eq_false (by omega)
      have hall : (L.map termT).take k = L.map termT := List.take_of_length_le (by rw [List.length_map, ← HN.out]; exact Nat.le_refl _)
      rw [hall] at how
      have HOW := Lib.hid how
      have HJ := Lib.hid (show Calls Tryz.prog 74 #[.slice Ao k co, .string ⟨#[44, 32]⟩] wr (fun e w' => e = .returned (.string (bs (sepT cmaT (L.map termT)))) ∧ Below wr.heap.size wr w') from by
        have h := sjoin_calls Ao k co ((L.map termT).map bs) ⟨#[44, 32]⟩ wr (by rw [List.length_map, List.length_map]; exact HN.out) (strs_own how (by rw [List.length_map]; exact HN.out)) (by rw [txs_bs]; exact HBIG.out) (by omega) (own_cap how)
        rw [txs_bs] at h
        exact h)
      clear hb hlt hk how hall
      go_wp2_with (go_at_call 74; ((with_reducible refine HJ.out.mono ?_); rintro e w2 ⟨rfl, hb2⟩; have HB2 := Lib.hid (HB.out.trans (hb2.mono HB.out.size)); clear hb2))
      go_ret
      exact ⟨rfl, HB2.out⟩
end Go.Proofs.YtminbdcabacfbaaGreatDoor.V

namespace Go.Proofs.YtminbdcabacfbaaGreatDoor.V
set_option linter.unusedVariables false
set_option linter.unusedSimpArgs false
open Go.RowKit

set_option maxRecDepth 100000 in
set_option maxHeartbeats 4000000 in
theorem tog_calls (A : Option Addr) (n c : Nat) (L : List ByteArray) (w : World) (hn : n = L.length) (hT : StrsAt w A L) (hbig : ((txs L).flatten).length ≤ 140737488355328) (hn2 : n ≤ 140737488355328) (hc : n ≤ c) :
    Calls Tryz.prog 40 #[.slice A n c] w fun e w' => e = .returned (.string (bs (txs L).flatten)) ∧ Below w.heap.size w w' := by
  have HJ := Lib.hid (show Calls Tryz.prog 74 #[.slice A n c, .string ⟨#[]⟩] w (fun e w' => e = .returned (.string (bs (txs L).flatten)) ∧ Below w.heap.size w w') from by
    have h := sjoin_calls A n c L ⟨#[]⟩ w hn hT (by rw [show (⟨#[]⟩ : ByteArray).data.toList = [] from rfl, sepT_none]; exact hbig) hn2 hc
    rw [show (⟨#[]⟩ : ByteArray).data.toList = [] from rfl, sepT_none] at h
    exact h)
  clear hT hbig hn
  go_enter Tryz.func40, Tryz.ntmps40
  go_wp2_with (go_at_call 74; ((with_reducible refine HJ.out.mono ?_); rintro e w2 ⟨rfl, hb2⟩; have HB2 := Lib.hid hb2; clear hb2))
  go_ret
  exact ⟨rfl, HB2.out⟩
/-- At texts that have just been laid. -/
theorem tog_new (L : List ByteArray) (W : World) (hbig : ((txs L).flatten).length ≤ 140737488355328) (hn : L.length ≤ 1000) :
    Calls Tryz.prog 40 #[.slice (some ⟨W.heap.size, 0, none⟩) L.length L.length] (W.alloc (.cells (L.map Value.string).toArray 9)) fun e w' => e = .returned (.string (bs (txs L).flatten)) ∧ Below W.heap.size W w' := by
  refine (tog_calls _ _ _ L _ rfl ?_ hbig (by omega) (Nat.le_refl _)).mono ?_
  · intro j x hx
    refine ⟨_, rfl, ?_⟩
    exact o_cells (L.map Value.string).toArray 9 j (.string x) (by simp [hx])
  · rintro e w' ⟨rfl, hb⟩
    exact ⟨rfl, ((Below.refl W.heap.size W).alloc (Nat.le_refl _) _).trans (hb.mono (by simp))⟩

set_option maxRecDepth 100000 in
set_option maxHeartbeats 8000000 in
theorem prAtom_calls (A : Option Addr) (n c : Nat) (x : AtomL) (w : World) (hn : n = x.a.length) (hT : TermsRd w A x.a) (hok : AtomOk x) (hbig : (atomT x).length ≤ 140737488355328) (hw : TabW w) :
    Calls Tryz.prog 26 #[.agg #[.string (bs x.p), .slice A n c]] w fun e w' => e = .returned (.string (bs (atomT x))) ∧ Below w.heap.size w w' := by
  obtain ⟨p, l⟩ := x
  dsimp only at hn hT
  have hbl := (Below.refl w.heap.size w).alloc (Nat.le_refl _) (.cells #[.string (bs p), .slice A n c] 25)
  have hnw := heap_alloc_new w (.cells #[.string (bs p), .slice A n c] 25)
  by_cases h0 : n = 0
  · have h00 : l = [] := List.length_eq_zero_iff.1 (by omega)
    have HE := Lib.hid (show atomT ⟨p, l⟩ = p from if_pos h00)
    have HB := Lib.hid hbl
    clear hn hT hok hbig hw h00 hbl hnw
    subst h0
    go_enter Tryz.func26, Tryz.ntmps26
    go_wp2_with fail
    go_ret
    exact ⟨by rw [HE.out]; rfl, HB.out⟩
  · have h00 : l ≠ [] := fun e => by subst e; exact h0 (by simpa using hn)
    have hE : atomT ⟨p, l⟩ = p ++ [40] ++ sepT cmaT (l.map termT) ++ [41] := if_neg h00
    rw [hE] at hbig
    obtain ⟨E, hEE⟩ : ∃ E, bs (sepT cmaT (l.map termT)) = E := ⟨_, rfl⟩
    have HTX := Lib.hid (fun (W : World) (h : TermsRd W A l) (hw : TabW W) => (show Calls Tryz.prog 56 #[.slice A n c, .func (.func 24) #[] #[]] W (fun e w' => e = .returned (.string E) ∧ Below W.heap.size W w') from by
      rw [← hEE]
      exact prTextsT_calls A n c l W hn h hok.2 (by rw [hn]; exact hok.1) (by simp only [List.length_append] at hbig; omega) hw))
    have HTG := Lib.hid (fun (W : World) => (show Calls Tryz.prog 40 #[.slice (some ⟨W.heap.size, 0, none⟩) 4 4] (W.alloc (.cells #[.string (bs p), .string ⟨#[40]⟩, .string E, .string ⟨#[41]⟩] 9)) (fun e w' => e = .returned (.string (bs (atomT ⟨p, l⟩))) ∧ Below W.heap.size W w') from by
      have h := tog_new [bs p, bs [40], E, bs [41]] W (by rw [← hEE]; simpa [txs, bs_data] using hbig) (by simp)
      have e1 : (txs [bs p, bs [40], E, bs [41]]).flatten = atomT ⟨p, l⟩ := by rw [hE, ← hEE]; simp [txs, bs_data]
      rw [e1] at h
      exact h))
    have HT0 := Lib.hid (hT.below hbl.drew)
    have HW0 := Lib.hid (hw.below hbl.drew)
    have HB0 := Lib.hid hbl.drew
    have hnn : ((n : Int) == 0) = false := beq_eq_false_iff_ne.2 (by omega)
    have d0 := cell_of_row _ _ 0 _ _ _ hnw
    have d1 := cell_of_row _ _ 1 _ _ _ hnw
    have D0 := Lib.hid d0
    clear hn hT hok hbig hw h00 hbl hnw hE hEE
    go_enter Tryz.func26, Tryz.ntmps26
    go_wp2_with fail
    go_region_with (first
      | (go_at_call 56; ((with_reducible refine (HTX.out _ HT0.out HW0.out).mono ?_); rintro e w2 ⟨rfl, hb2⟩; have e0 := cell_below hb2 (show World.cell? _ _ = _ from D0.out); have HB2 := Lib.hid (HB0.out.trans (hb2.mono HB0.out.size)); clear hb2))
      | (go_at_call 40; ((with_reducible refine (HTG.out w2).mono ?_); rintro e w3 ⟨rfl, hb3⟩; have HB3 := Lib.hid (HB2.out.trans (hb3.mono HB2.out.size)); clear hb3)))
    all_goals
      go_wp2_with fail
      go_ret
      exact ⟨rfl, HB3.out⟩
end Go.Proofs.YtminbdcabacfbaaGreatDoor.V

namespace Go.Proofs.YtminbdcabacfbaaGreatDoor.V
set_option linter.unusedVariables false
set_option linter.unusedSimpArgs false
open Go.RowKit

set_option maxRecDepth 100000 in
set_option maxHeartbeats 16000000 in
theorem prLit_calls (A : Option Addr) (n c : Nat) (kk : Int) (x : LitL) (w : World) (hk : kk.toNat = x.k) (hn : n = x.a.a.length) (hT : TermsRd w A x.a.a) (hok : LitOk' x) (hbig : (litT x).length ≤ 140737488355328) (hw : TabW w) :
    Calls Tryz.prog 22 #[.agg #[.int .i64 kk, .string (bs x.a.p), .slice A n c, .string (bs x.o), .bool x.l.v, .string (bs x.l.x), .bool x.l.s, .string (bs x.l.t), .int .i64 x.l.n, .bool x.r.v, .string (bs x.r.x), .bool x.r.s, .string (bs x.r.t), .int .i64 x.r.n]] w fun e w' => e = .returned (.string (bs (litT x))) ∧ Below w.heap.size w w' := by
  obtain ⟨k, ⟨p, la⟩, o, l, r⟩ := x
  dsimp only at hn hT hk ⊢
  have hbl := (Below.refl w.heap.size w).alloc (Nat.le_refl _) (.cells #[.int .i64 kk, .string (bs p), .slice A n c, .string (bs o), .bool l.v, .string (bs l.x), .bool l.s, .string (bs l.t), .int .i64 l.n, .bool r.v, .string (bs r.x), .bool r.s, .string (bs r.t), .int .i64 r.n] 47)
  have hnw := heap_alloc_new w (.cells #[.int .i64 kk, .string (bs p), .slice A n c, .string (bs o), .bool l.v, .string (bs l.x), .bool l.s, .string (bs l.t), .int .i64 l.n, .bool r.v, .string (bs r.x), .bool r.s, .string (bs r.t), .int .i64 r.n] 47)
  have HB0 := Lib.hid hbl
  have HBD := Lib.hid hbl.drew
  have HT0 := Lib.hid (hT.below hbl)
  have HW0 := Lib.hid (hw.below hbl)
  have HWD := Lib.hid (hw.below hbl.drew)
  have d0 := cell_of_row _ _ 0 _ _ _ hnw
  have d1 := cell_of_row _ _ 1 _ _ _ hnw
  have d2 := cell_of_row _ _ 2 _ _ _ hnw
  have d3 := cell_of_row _ _ 3 _ _ _ hnw
  have HNW := Lib.hid hnw
  clear hbl hnw
  by_cases h1 : kk = 1
  · subst h1
    have hk1 : k = 1 := hk.symm
    have hE : litT ⟨k, ⟨p, la⟩, o, l, r⟩ = atomT ⟨p, la⟩ := if_pos hk1
    rw [hE] at hbig ⊢
    have HAT := Lib.hid (fun (W : World) (h : TermsRd W A la) (hw : TabW W) => (show Calls Tryz.prog 26 #[.agg #[.string (bs p), .slice A n c]] W (fun e w' => e = .returned (.string (bs (atomT ⟨p, la⟩))) ∧ Below W.heap.size W w') from prAtom_calls A n c ⟨p, la⟩ W hn h hok.1 hbig hw))
    clear hk hn hT hok hbig hw hE
    go_enter Tryz.func22, Tryz.ntmps22
    go_wp2_with (go_at_call 26; ((with_reducible refine (HAT.out _ HT0.out HW0.out).mono ?_); rintro e w2 ⟨rfl, hb2⟩; have HB2 := Lib.hid (HB0.out.trans (hb2.mono HB0.out.size)); clear hb2))
    go_ret
    exact ⟨rfl, HB2.out⟩
  · have hq1 : (kk == 1) = false := beq_eq_false_iff_ne.2 h1
    by_cases h2 : kk = 2
    · subst h2
      have hk1 : k = 2 := hk.symm
      have hE : litT ⟨k, ⟨p, la⟩, o, l, r⟩ = [110, 111, 116, 32] ++ atomT ⟨p, la⟩ := by unfold litT; rw [if_neg (show ¬ k = 1 by omega), if_pos hk1]
      rw [hE] at hbig
      obtain ⟨E, hEE⟩ : ∃ E, bs (atomT ⟨p, la⟩) = E := ⟨_, rfl⟩
      have HAT := Lib.hid (fun (W : World) (h : TermsRd W A la) (hw : TabW W) => (show Calls Tryz.prog 26 #[.agg #[.string (bs p), .slice A n c]] W (fun e w' => e = .returned (.string E) ∧ Below W.heap.size W w') from by rw [← hEE]; exact prAtom_calls A n c ⟨p, la⟩ W hn h hok.1 (by simp only [List.length_append] at hbig; omega) hw))
      have HTG := Lib.hid (fun (W : World) => (show Calls Tryz.prog 40 #[.slice (some ⟨W.heap.size, 0, none⟩) 2 2] (W.alloc (.cells #[.string ⟨#[110, 111, 116, 32]⟩, .string E] 9)) (fun e w' => e = .returned (.string (bs (litT ⟨k, ⟨p, la⟩, o, l, r⟩))) ∧ Below W.heap.size W w') from by
        have h := tog_new [bs [110, 111, 116, 32], E] W (by rw [← hEE]; simpa [txs, bs_data] using hbig) (by simp)
        have e1 : (txs [bs [110, 111, 116, 32], E]).flatten = litT ⟨k, ⟨p, la⟩, o, l, r⟩ := by rw [hE, ← hEE]; simp [txs, bs_data]
        rw [e1] at h
        exact h))
      clear hk hn hT hok hbig hw hE hEE hk1
      go_enter Tryz.func22, Tryz.ntmps22
      go_wp2_with (first
        | (go_at_call 26; ((with_reducible refine (HAT.out _ HT0.out HW0.out).mono ?_); rintro e w2 ⟨rfl, hb2⟩; have HB2 := Lib.hid (HB0.out.trans (hb2.mono HB0.out.size)); clear hb2))
        | (go_at_call 40; ((with_reducible refine (HTG.out w2).mono ?_); rintro e w3 ⟨rfl, hb3⟩; have HB3 := Lib.hid (HB2.out.trans (hb3.mono HB2.out.size)); clear hb3)))
      go_ret
      exact ⟨rfl, HB3.out⟩
    · have hq2 : (kk == 2) = false := beq_eq_false_iff_ne.2 h2
      by_cases h3 : kk = 3
      · subst h3
        have hk1 : k = 3 := hk.symm
        have hE : litT ⟨k, ⟨p, la⟩, o, l, r⟩ = termT l ++ [32] ++ o ++ [32] ++ termT r := by unfold litT; rw [if_neg (show ¬ k = 1 by omega), if_neg (show ¬ k = 2 by omega), if_pos hk1]
        rw [hE] at hbig
        obtain ⟨E1, hE1⟩ : ∃ E, bs (termT l) = E := ⟨_, rfl⟩
        obtain ⟨E2, hE2⟩ : ∃ E, bs (termT r) = E := ⟨_, rfl⟩
        have HTL := Lib.hid (fun (W : World) (h : TabW W) => (show Calls Tryz.prog 24 #[.agg #[.bool l.v, .string (bs l.x), .bool l.s, .string (bs l.t), .int .i64 l.n]] W (fun e w' => e = .returned (.string E1) ∧ Below W.heap.size W w') from by rw [← hE1]; exact prTerm_calls l W hok.2.1 h))
        have HTR := Lib.hid (fun (W : World) (h : TabW W) => (show Calls Tryz.prog 24 #[.agg #[.bool r.v, .string (bs r.x), .bool r.s, .string (bs r.t), .int .i64 r.n]] W (fun e w' => e = .returned (.string E2) ∧ Below W.heap.size W w') from by rw [← hE2]; exact prTerm_calls r W hok.2.2 h))
        have HTG := Lib.hid (fun (W : World) => (show Calls Tryz.prog 40 #[.slice (some ⟨W.heap.size, 0, none⟩) 5 5] (W.alloc (.cells #[.string E1, .string ⟨#[32]⟩, .string (bs o), .string ⟨#[32]⟩, .string E2] 9)) (fun e w' => e = .returned (.string (bs (litT ⟨k, ⟨p, la⟩, o, l, r⟩))) ∧ Below W.heap.size W w') from by
          have h := tog_new [E1, bs [32], bs o, bs [32], E2] W (by rw [← hE1, ← hE2]; simpa [txs, bs_data] using hbig) (by simp)
          have e1 : (txs [E1, bs [32], bs o, bs [32], E2]).flatten = litT ⟨k, ⟨p, la⟩, o, l, r⟩ := by rw [hE, ← hE1, ← hE2]; simp [txs, bs_data]
          rw [e1] at h
          exact h))
        have d4 := cell_of_row _ _ 4 _ _ _ HNW.out
        have d5 := cell_of_row _ _ 5 _ _ _ HNW.out
        have d6 := cell_of_row _ _ 6 _ _ _ HNW.out
        have d7 := cell_of_row _ _ 7 _ _ _ HNW.out
        have d8 := cell_of_row _ _ 8 _ _ _ HNW.out
        have d9 := cell_of_row _ _ 9 _ _ _ HNW.out
        have d10 := cell_of_row _ _ 10 _ _ _ HNW.out
        have d11 := cell_of_row _ _ 11 _ _ _ HNW.out
        have d12 := cell_of_row _ _ 12 _ _ _ HNW.out
        have d13 := cell_of_row _ _ 13 _ _ _ HNW.out
        clear hk hn hT hok hbig hw hE hE1 hE2 hk1
        go_enter Tryz.func22, Tryz.ntmps22
        go_wp2_with fail
        go_region_with (first
          | (go_at_call 24; ((with_reducible refine (HTL.out _ HWD.out).mono ?_); rintro e w2 ⟨rfl, hb2⟩; have HD2 := Lib.hid (show w2.heap[w.heap.size]? = some (.cells #[.int .i64 3, .string (bs p), .slice A n c, .string (bs o), .bool l.v, .string (bs l.x), .bool l.s, .string (bs l.t), .int .i64 l.n, .bool r.v, .string (bs r.x), .bool r.s, .string (bs r.t), .int .i64 r.n] 47 (0, 0)) from (hb2.block w.heap.size (by rw [World.size_drew, World.size_alloc]; omega)).trans HNW.out); have HB2 := Lib.hid (HBD.out.trans (hb2.mono HBD.out.size)); have HW2 := Lib.hid (HWD.out.below hb2); have e3 := cell_of_row _ _ 3 _ _ _ HD2.out; have e9 := cell_of_row _ _ 9 _ _ _ HD2.out; have e10 := cell_of_row _ _ 10 _ _ _ HD2.out; have e11 := cell_of_row _ _ 11 _ _ _ HD2.out; have e12 := cell_of_row _ _ 12 _ _ _ HD2.out; have e13 := cell_of_row _ _ 13 _ _ _ HD2.out; clear hb2))
          | (go_at_call 24; ((with_reducible refine (HTR.out _ HW2.out).mono ?_); rintro e w3 ⟨rfl, hb3⟩; have HB3 := Lib.hid (HB2.out.trans (hb3.mono HB2.out.size)); have f3 := cell_below hb3 e3; clear hb3))
          | (go_at_call 40; ((with_reducible refine (HTG.out w3).mono ?_); rintro e w4 ⟨rfl, hb4⟩; have HB4 := Lib.hid (HB3.out.trans (hb4.mono HB3.out.size)); clear hb4)))
        all_goals
          go_wp2_with fail
          go_ret
          exact ⟨rfl, HB4.out⟩
      · have hq3 : (kk == 3) = false := beq_eq_false_iff_ne.2 h3
        have hE : litT ⟨k, ⟨p, la⟩, o, l, r⟩ = [] := by unfold litT; rw [if_neg (show ¬ k = 1 by omega), if_neg (show ¬ k = 2 by omega), if_neg (show ¬ k = 3 by omega)]
        rw [hE]
        clear hk hn hT hok hbig hw hE h1 h2 h3
        go_enter Tryz.func22, Tryz.ntmps22
        go_wp2_with fail
        go_ret
        exact ⟨rfl, HB0.out⟩
end Go.Proofs.YtminbdcabacfbaaGreatDoor.V

namespace Go.Proofs.YtminbdcabacfbaaGreatDoor.V
set_option linter.unusedVariables false
set_option linter.unusedSimpArgs false
open Go.RowKit

theorem lenlit3 {k : Nat} {a : AtomL} {o : List UInt8} {l r : TermL} (h : k = 3) : litT ⟨k, a, o, l, r⟩ = termT l ++ [32] ++ o ++ [32] ++ termT r := by unfold litT; rw [if_neg (show ¬ k = 1 by omega), if_neg (show ¬ k = 2 by omega), if_pos h]

set_option maxRecDepth 100000 in
set_option maxHeartbeats 16000000 in
theorem rfLit_calls (A : Option Addr) (n c : Nat) (kk : Int) (x : LitL) (w : World) (hk : kk.toNat = x.k) (hn : n = x.a.a.length) (hT : TermsRd w A x.a.a) (hok : LitOk' x) (hsm : wL x ≤ 1000000000) (hbig : (litT x).length ≤ 140737488355328) :
    Calls Tryz.prog 23 #[.agg #[.int .i64 kk, .string (bs x.a.p), .slice A n c, .string (bs x.o), .bool x.l.v, .string (bs x.l.x), .bool x.l.s, .string (bs x.l.t), .int .i64 x.l.n, .bool x.r.v, .string (bs x.r.x), .bool x.r.s, .string (bs x.r.t), .int .i64 x.r.n]] w fun e w' => e = .returned (.string (bs (litT x))) ∧ Below w.heap.size w w' := by
  obtain ⟨k, ⟨p, la⟩, o, l, r⟩ := x
  dsimp only at hn hT hk ⊢
  unfold wL at hsm
  dsimp only at hsm
  have hbl := (Below.refl w.heap.size w).alloc (Nat.le_refl _) (.cells #[.int .i64 kk, .string (bs p), .slice A n c, .string (bs o), .bool l.v, .string (bs l.x), .bool l.s, .string (bs l.t), .int .i64 l.n, .bool r.v, .string (bs r.x), .bool r.s, .string (bs r.t), .int .i64 r.n] 47)
  have hnw := heap_alloc_new w (.cells #[.int .i64 kk, .string (bs p), .slice A n c, .string (bs o), .bool l.v, .string (bs l.x), .bool l.s, .string (bs l.t), .int .i64 l.n, .bool r.v, .string (bs r.x), .bool r.s, .string (bs r.t), .int .i64 r.n] 47)
  have HB0 := Lib.hid hbl
  have HT0 := Lib.hid (hT.below hbl)
  have d0 := cell_of_row _ _ 0 _ _ _ hnw
  have d1 := cell_of_row _ _ 1 _ _ _ hnw
  have d2 := cell_of_row _ _ 2 _ _ _ hnw
  have HNW := Lib.hid hnw
  clear hbl hnw
  by_cases h1 : kk = 1
  · subst h1
    have hk1 : k = 1 := hk.symm
    have hE : litT ⟨k, ⟨p, la⟩, o, l, r⟩ = atomT ⟨p, la⟩ := if_pos hk1
    rw [hE] at hbig ⊢
    have HAT := Lib.hid (fun (W : World) (h : TermsRd W A la) => (show Calls Tryz.prog 27 #[.agg #[.string (bs p), .slice A n c]] W (fun e w' => e = .returned (.string (bs (atomT ⟨p, la⟩))) ∧ Below W.heap.size W w') from rfAtom_calls A n c ⟨p, la⟩ W hn h hok.1 (by omega) hbig))
    clear hk hn hT hok hbig hE hsm
    go_enter Tryz.func23, Tryz.ntmps23
    go_wp2_with (go_at_call 27; ((with_reducible refine (HAT.out _ HT0.out).mono ?_); rintro e w2 ⟨rfl, hb2⟩; have HB2 := Lib.hid (HB0.out.trans (hb2.mono HB0.out.size)); clear hb2))
    go_ret
    exact ⟨rfl, HB2.out⟩
  · have hq1 : (kk == 1) = false := beq_eq_false_iff_ne.2 h1
    by_cases h2 : kk = 2
    · subst h2
      have hk1 : k = 2 := hk.symm
      have hE : litT ⟨k, ⟨p, la⟩, o, l, r⟩ = [110, 111, 116, 32] ++ atomT ⟨p, la⟩ := by unfold litT; rw [if_neg (show ¬ k = 1 by omega), if_pos hk1]
      rw [hE] at hbig ⊢
      rw [List.length_append] at hbig
      have hadd := add_bs [110, 111, 116, 32] (atomT ⟨p, la⟩) hbig
      obtain ⟨F, hF⟩ : ∃ F, bs ([110, 111, 116, 32] ++ atomT ⟨p, la⟩) = F := ⟨_, rfl⟩
      obtain ⟨E, hEE⟩ : ∃ E, bs (atomT ⟨p, la⟩) = E := ⟨_, rfl⟩
      have HAT := Lib.hid (fun (W : World) (h : TermsRd W A la) => (show Calls Tryz.prog 27 #[.agg #[.string (bs p), .slice A n c]] W (fun e w' => e = .returned (.string E) ∧ Below W.heap.size W w') from by rw [← hEE]; exact rfAtom_calls A n c ⟨p, la⟩ W hn h hok.1 (by omega) (by omega)))
      rw [hF, hEE] at hadd
      rw [hF]
      have a1 : ∀ W, (Op.stringOp .add ⟨#[110, 111, 116, 32]⟩ E).run Tryz.prog W = .ok (.string F) W := hadd
      clear hk hn hT hok hbig hE hEE hk1 hadd hF hsm
      go_enter Tryz.func23, Tryz.ntmps23
      go_wp2_with (go_at_call 27; ((with_reducible refine (HAT.out _ HT0.out).mono ?_); rintro e w2 ⟨rfl, hb2⟩; have HB2 := Lib.hid (HB0.out.trans (hb2.mono HB0.out.size)); clear hb2))
      go_ret
      exact ⟨rfl, HB2.out⟩
    · have hq2 : (kk == 2) = false := beq_eq_false_iff_ne.2 h2
      by_cases h3 : kk = 3
      · subst h3
        have hk1 : k = 3 := hk.symm
        have hE : litT ⟨k, ⟨p, la⟩, o, l, r⟩ = termT l ++ [32] ++ o ++ [32] ++ termT r := lenlit3 hk1
        rw [hE] at hbig ⊢
        simp only [List.length_append] at hbig
        have b1 := add_bs (termT l) [32] (by omega)
        have b2 := add_bs (termT l ++ [32]) o (by simp only [List.length_append]; omega)
        have b3 := add_bs (termT l ++ [32] ++ o) [32] (by simp only [List.length_append]; omega)
        have b4 := add_bs (termT l ++ [32] ++ o ++ [32]) (termT r) (by simp only [List.length_append]; omega)
        obtain ⟨F4, hF4⟩ : ∃ F, bs (termT l ++ [32] ++ o ++ [32] ++ termT r) = F := ⟨_, rfl⟩
        obtain ⟨F3, hF3⟩ : ∃ F, bs (termT l ++ [32] ++ o ++ [32]) = F := ⟨_, rfl⟩
        obtain ⟨F2, hF2⟩ : ∃ F, bs (termT l ++ [32] ++ o) = F := ⟨_, rfl⟩
        obtain ⟨F1, hF1⟩ : ∃ F, bs (termT l ++ [32]) = F := ⟨_, rfl⟩
        obtain ⟨E1, hE1⟩ : ∃ E, bs (termT l) = E := ⟨_, rfl⟩
        obtain ⟨E2, hE2⟩ : ∃ E, bs (termT r) = E := ⟨_, rfl⟩
        rw [hF4]
        rw [hF4, hF3, hE2] at b4
        rw [hF3, hF2] at b3
        rw [hF2, hF1] at b2
        rw [hF1, hE1] at b1
        have c1 : ∀ W, (Op.stringOp .add E1 ⟨#[32]⟩).run Tryz.prog W = .ok (.string F1) W := b1
        have c3 : ∀ W, (Op.stringOp .add F2 ⟨#[32]⟩).run Tryz.prog W = .ok (.string F3) W := b3
        have HTL := Lib.hid (fun (W : World) => (show Calls Tryz.prog 25 #[.agg #[.bool l.v, .string (bs l.x), .bool l.s, .string (bs l.t), .int .i64 l.n]] W (fun e w' => e = .returned (.string E1) ∧ Below W.heap.size W w') from by rw [← hE1]; exact rfTerm_calls l W hok.2.1 (by omega)))
        have HTR := Lib.hid (fun (W : World) => (show Calls Tryz.prog 25 #[.agg #[.bool r.v, .string (bs r.x), .bool r.s, .string (bs r.t), .int .i64 r.n]] W (fun e w' => e = .returned (.string E2) ∧ Below W.heap.size W w') from by rw [← hE2]; exact rfTerm_calls r W hok.2.2 (by omega)))
        have hw1g : ∃ w1, w.alloc (.cells #[.int .i64 3, .string (bs p), .slice A n c, .string (bs o), .bool l.v, .string (bs l.x), .bool l.s, .string (bs l.t), .int .i64 l.n, .bool r.v, .string (bs r.x), .bool r.s, .string (bs r.t), .int .i64 r.n] 47) = w1 := ⟨_, rfl⟩
        have hcl : World.cell? (w.alloc (.cells #[.int .i64 3, .string (bs p), .slice A n c, .string (bs o), .bool l.v, .string (bs l.x), .bool l.s, .string (bs l.t), .int .i64 l.n, .bool r.v, .string (bs r.x), .bool r.s, .string (bs r.t), .int .i64 r.n] 47)) ⟨w.heap.size, 3, none⟩ = some (.string (bs o)) ∧ World.cell? (w.alloc (.cells #[.int .i64 3, .string (bs p), .slice A n c, .string (bs o), .bool l.v, .string (bs l.x), .bool l.s, .string (bs l.t), .int .i64 l.n, .bool r.v, .string (bs r.x), .bool r.s, .string (bs r.t), .int .i64 r.n] 47)) ⟨w.heap.size, 4, none⟩ = some (.bool l.v) ∧ World.cell? (w.alloc (.cells #[.int .i64 3, .string (bs p), .slice A n c, .string (bs o), .bool l.v, .string (bs l.x), .bool l.s, .string (bs l.t), .int .i64 l.n, .bool r.v, .string (bs r.x), .bool r.s, .string (bs r.t), .int .i64 r.n] 47)) ⟨w.heap.size, 5, none⟩ = some (.string (bs l.x)) ∧ World.cell? (w.alloc (.cells #[.int .i64 3, .string (bs p), .slice A n c, .string (bs o), .bool l.v, .string (bs l.x), .bool l.s, .string (bs l.t), .int .i64 l.n, .bool r.v, .string (bs r.x), .bool r.s, .string (bs r.t), .int .i64 r.n] 47)) ⟨w.heap.size, 6, none⟩ = some (.bool l.s) ∧ World.cell? (w.alloc (.cells #[.int .i64 3, .string (bs p), .slice A n c, .string (bs o), .bool l.v, .string (bs l.x), .bool l.s, .string (bs l.t), .int .i64 l.n, .bool r.v, .string (bs r.x), .bool r.s, .string (bs r.t), .int .i64 r.n] 47)) ⟨w.heap.size, 7, none⟩ = some (.string (bs l.t)) ∧ World.cell? (w.alloc (.cells #[.int .i64 3, .string (bs p), .slice A n c, .string (bs o), .bool l.v, .string (bs l.x), .bool l.s, .string (bs l.t), .int .i64 l.n, .bool r.v, .string (bs r.x), .bool r.s, .string (bs r.t), .int .i64 r.n] 47)) ⟨w.heap.size, 8, none⟩ = some (.int .i64 l.n) ∧ World.cell? (w.alloc (.cells #[.int .i64 3, .string (bs p), .slice A n c, .string (bs o), .bool l.v, .string (bs l.x), .bool l.s, .string (bs l.t), .int .i64 l.n, .bool r.v, .string (bs r.x), .bool r.s, .string (bs r.t), .int .i64 r.n] 47)) ⟨w.heap.size, 9, none⟩ = some (.bool r.v) ∧ World.cell? (w.alloc (.cells #[.int .i64 3, .string (bs p), .slice A n c, .string (bs o), .bool l.v, .string (bs l.x), .bool l.s, .string (bs l.t), .int .i64 l.n, .bool r.v, .string (bs r.x), .bool r.s, .string (bs r.t), .int .i64 r.n] 47)) ⟨w.heap.size, 10, none⟩ = some (.string (bs r.x)) ∧ World.cell? (w.alloc (.cells #[.int .i64 3, .string (bs p), .slice A n c, .string (bs o), .bool l.v, .string (bs l.x), .bool l.s, .string (bs l.t), .int .i64 l.n, .bool r.v, .string (bs r.x), .bool r.s, .string (bs r.t), .int .i64 r.n] 47)) ⟨w.heap.size, 11, none⟩ = some (.bool r.s) ∧ World.cell? (w.alloc (.cells #[.int .i64 3, .string (bs p), .slice A n c, .string (bs o), .bool l.v, .string (bs l.x), .bool l.s, .string (bs l.t), .int .i64 l.n, .bool r.v, .string (bs r.x), .bool r.s, .string (bs r.t), .int .i64 r.n] 47)) ⟨w.heap.size, 12, none⟩ = some (.string (bs r.t)) ∧ World.cell? (w.alloc (.cells #[.int .i64 3, .string (bs p), .slice A n c, .string (bs o), .bool l.v, .string (bs l.x), .bool l.s, .string (bs l.t), .int .i64 l.n, .bool r.v, .string (bs r.x), .bool r.s, .string (bs r.t), .int .i64 r.n] 47)) ⟨w.heap.size, 13, none⟩ = some (.int .i64 r.n) := ⟨cell_of_row _ _ 3 _ _ _ HNW.out, cell_of_row _ _ 4 _ _ _ HNW.out, cell_of_row _ _ 5 _ _ _ HNW.out, cell_of_row _ _ 6 _ _ _ HNW.out, cell_of_row _ _ 7 _ _ _ HNW.out, cell_of_row _ _ 8 _ _ _ HNW.out, cell_of_row _ _ 9 _ _ _ HNW.out, cell_of_row _ _ 10 _ _ _ HNW.out, cell_of_row _ _ 11 _ _ _ HNW.out, cell_of_row _ _ 12 _ _ _ HNW.out, cell_of_row _ _ 13 _ _ _ HNW.out⟩
        clear hk hn hT hok hbig hE hE1 hE2 hk1 hF1 hF2 hF3 hF4 b1 b3 hsm
        go_enter Tryz.func23, Tryz.ntmps23
        go_wp2_with fail
        obtain ⟨w1, hw1⟩ := hw1g
        rw [hw1] at HB0 hcl ⊢
        have K := fun (W : World) (hb : Below w1.heap.size w1 W) => (show World.cell? W ⟨w.heap.size, 3, none⟩ = some (.string (bs o)) ∧ World.cell? W ⟨w.heap.size, 4, none⟩ = some (.bool l.v) ∧ World.cell? W ⟨w.heap.size, 5, none⟩ = some (.string (bs l.x)) ∧ World.cell? W ⟨w.heap.size, 6, none⟩ = some (.bool l.s) ∧ World.cell? W ⟨w.heap.size, 7, none⟩ = some (.string (bs l.t)) ∧ World.cell? W ⟨w.heap.size, 8, none⟩ = some (.int .i64 l.n) ∧ World.cell? W ⟨w.heap.size, 9, none⟩ = some (.bool r.v) ∧ World.cell? W ⟨w.heap.size, 10, none⟩ = some (.string (bs r.x)) ∧ World.cell? W ⟨w.heap.size, 11, none⟩ = some (.bool r.s) ∧ World.cell? W ⟨w.heap.size, 12, none⟩ = some (.string (bs r.t)) ∧ World.cell? W ⟨w.heap.size, 13, none⟩ = some (.int .i64 r.n) from ⟨cell_below hb (hcl.1), cell_below hb (hcl.2.1), cell_below hb (hcl.2.2.1), cell_below hb (hcl.2.2.2.1), cell_below hb (hcl.2.2.2.2.1), cell_below hb (hcl.2.2.2.2.2.1), cell_below hb (hcl.2.2.2.2.2.2.1), cell_below hb (hcl.2.2.2.2.2.2.2.1), cell_below hb (hcl.2.2.2.2.2.2.2.2.1), cell_below hb (hcl.2.2.2.2.2.2.2.2.2.1), cell_below hb (hcl.2.2.2.2.2.2.2.2.2.2)⟩)
        clear d0 d1 d2 HT0 HNW hw1
        go_region_held3 (fun w' => World.cell? w' ⟨w.heap.size, 3, none⟩ = some (.string (bs o)) ∧ World.cell? w' ⟨w.heap.size, 4, none⟩ = some (.bool l.v) ∧ World.cell? w' ⟨w.heap.size, 5, none⟩ = some (.string (bs l.x)) ∧ World.cell? w' ⟨w.heap.size, 6, none⟩ = some (.bool l.s) ∧ World.cell? w' ⟨w.heap.size, 7, none⟩ = some (.string (bs l.t)) ∧ World.cell? w' ⟨w.heap.size, 8, none⟩ = some (.int .i64 l.n) ∧ World.cell? w' ⟨w.heap.size, 9, none⟩ = some (.bool r.v) ∧ World.cell? w' ⟨w.heap.size, 10, none⟩ = some (.string (bs r.x)) ∧ World.cell? w' ⟨w.heap.size, 11, none⟩ = some (.bool r.s) ∧ World.cell? w' ⟨w.heap.size, 12, none⟩ = some (.string (bs r.t)) ∧ World.cell? w' ⟨w.heap.size, 13, none⟩ = some (.int .i64 r.n))
          (exact K _ (by first | exact HBB.out | exact HBC.out | exact (Below.refl _ _).drew | exact Below.refl _ _))
          (first
            | (go_at_call 25; ((with_reducible refine (HTL.out _).mono ?_); rintro e w9 ⟨rfl, hb9⟩; have HBB := Lib.hid (show Below w1.heap.size w1 w9 from (by first | exact HBB.out.trans (hb9.mono HBB.out.size) | exact HBC.out.trans (hb9.mono HBC.out.size) | exact ((Below.refl _ _).drew).trans hb9 | exact hb9)); clear hb9))
            | (go_at_call 25; ((with_reducible refine (HTR.out _).mono ?_); rintro e w10 ⟨rfl, hb9⟩; have HBC := Lib.hid (show Below w1.heap.size w1 w10 from (by first | exact HBB.out.trans (hb9.mono HBB.out.size) | exact HBC.out.trans (hb9.mono HBC.out.size) | exact ((Below.refl _ _).drew).trans hb9 | exact hb9)); clear hb9)))
        all_goals
          go_wp2_with fail
          go_ret
          first
            | exact ⟨rfl, HB0.out.trans (HBB.out.mono HB0.out.size)⟩
            | exact ⟨rfl, HB0.out.trans (HBC.out.mono HB0.out.size)⟩
      · have hq3 : (kk == 3) = false := beq_eq_false_iff_ne.2 h3
        have hE : litT ⟨k, ⟨p, la⟩, o, l, r⟩ = [] := by
          unfold litT
          dsimp only
          rw [if_neg (by omega), if_neg (by omega), if_neg (by omega)]
        rw [hE]
        clear hk hn hT hok hbig hE hsm h1 h2 h3
        go_enter Tryz.func23, Tryz.ntmps23
        go_wp2_with fail
        go_ret
        exact ⟨rfl, HB0.out⟩
end Go.Proofs.YtminbdcabacfbaaGreatDoor.V

namespace Go.Proofs.YtminbdcabacfbaaGreatDoor.V
set_option linter.unusedVariables false
set_option linter.unusedSimpArgs false
open Go.RowKit

theorem sepT_mem (m : List UInt8) {x : List UInt8} : ∀ {L : List (List UInt8)}, x ∈ L → x.length ≤ (sepT m L).length
  | [], h => by cases h
  | [y], h => by rw [List.mem_singleton.1 h]; exact Nat.le_refl _
  | y :: z :: r, h => by
    rw [sepT, List.length_append, List.length_append]
    rcases List.mem_cons.1 h with rfl | h
    · omega
    · have := sepT_mem m h
      omega
/-- A literal's cells. -/
theorem LitHere.open {w : World} {a : Addr} {l : LitL} (h : LitHere w a l) : ∃ (kk : Int) (A : Option Addr) (n c : Nat), kk.toNat = l.k ∧ n = l.a.a.length ∧ n ≤ c ∧ TermsRd w A l.a.a ∧
    w.cell? a = some (.int .i64 kk) ∧ w.cell? ⟨a.block, a.off + 1, none⟩ = some (.string (bs l.a.p)) ∧ w.cell? ⟨a.block, a.off + 2, none⟩ = some (.slice A n c) ∧ w.cell? ⟨a.block, a.off + 3, none⟩ = some (.string (bs l.o)) ∧
    w.cell? ⟨a.block, a.off + 4, none⟩ = some (.bool l.l.v) ∧ w.cell? ⟨a.block, a.off + 5, none⟩ = some (.string (bs l.l.x)) ∧ w.cell? ⟨a.block, a.off + 6, none⟩ = some (.bool l.l.s) ∧ w.cell? ⟨a.block, a.off + 7, none⟩ = some (.string (bs l.l.t)) ∧ w.cell? ⟨a.block, a.off + 8, none⟩ = some (.int .i64 l.l.n) ∧
    w.cell? ⟨a.block, a.off + 9, none⟩ = some (.bool l.r.v) ∧ w.cell? ⟨a.block, a.off + 10, none⟩ = some (.string (bs l.r.x)) ∧ w.cell? ⟨a.block, a.off + 11, none⟩ = some (.bool l.r.s) ∧ w.cell? ⟨a.block, a.off + 12, none⟩ = some (.string (bs l.r.t)) ∧ w.cell? ⟨a.block, a.off + 13, none⟩ = some (.int .i64 l.r.n) := by
  obtain ⟨⟨kk, h0, hk⟩, ⟨A, n, c, hn, hc, h1, h2, ht⟩, h3, h4, h9⟩ := h
  exact ⟨kk, A, n, c, hk, hn, hc, ht, h0, h1, h2, h3, h4.c0, h4.c1, h4.c2, h4.c3, h4.c4, h9.c0, h9.c1, h9.c2, h9.c3, h9.c4⟩

set_option maxRecDepth 100000 in
set_option maxHeartbeats 8000000 in
theorem prTextsL_calls (A : Option Addr) (n c : Nat) (L : List LitL) (w : World) (hn : n = L.length) (hT : LitsRd w A L) (hok : ∀ t ∈ L, LitOk' t) (hn2 : n < 1000000000) (hbig : (sepT cmaT (L.map litT)).length ≤ 140737488355328) (hw : TabW w) :
    Calls Tryz.prog 57 #[.slice A n c, .func (.func 22) #[] #[]] w fun e w' => e = .returned (.string (bs (sepT cmaT (L.map litT)))) ∧ Below w.heap.size w w' := by
  have HT := Lib.hid hT
  have HOK := Lib.hid hok
  have HN := Lib.hid hn
  have HBIG := Lib.hid hbig
  have HW := Lib.hid hw
  clear hT hok hn hbig hw
  go_enter Tryz.func57, Tryz.ntmps57
  go_wp2_with fail
  go_loopw [5, 10] (fun v i wr => ∃ (k : Nat) (Ao : Option Addr) (co : Nat), k ≤ n ∧ i = .int .i64 (k : Int) ∧ v = .slice Ao k co ∧ wr.ownsRow w.heap.size 9 1 (.slice Ao k co) k (strV ((L.map litT).take k)) ∧ Below w.heap.size w wr) (fun _ i _ => n + 1 - (intOf i).toNat)
  case atStart => exact ⟨0, none, 0, Nat.zero_le _, rfl, rfl, World.ownsRow_nil _ _ _ _, Below.refl _ _⟩
  case round =>
    obtain ⟨k, Ao, co, hk, rfl, rfl, how, hb⟩ := hrel
    have HOW := Lib.hid how
    have HB := Lib.hid hb
    by_cases hlt : k < n
    · have hd : decide ((k : Int) < (n : Int)) = true := decide_eq_true (by omega)
      obtain ⟨t, hx⟩ : ∃ t, L[k]? = some t := ⟨_, List.getElem?_eq_getElem (by rw [← HN.out]; exact hlt)⟩
      obtain ⟨a, rfl, hh⟩ := HT.out k t hx
      have hh2 := hh.below hb
      have hgt := HOK.out t (List.mem_of_getElem? hx)
      obtain ⟨E, hE⟩ : ∃ E, bs (litT t) = E := ⟨_, rfl⟩
      have HSN := Lib.hid (show strV ((L.map litT).take (k + 1)) = strV ((L.map litT).take k) ++ [.string E] by
        unfold strV
        rw [List.take_add_one, List.map_append, List.getElem?_map, hx, ← hE]
        rfl)
      have HWr := Lib.hid (HW.out.below hb)
      obtain ⟨kk, Aa, na, ca, hkk, hna, hnca, htr, d0, d1, d2, d3, d4, d5, d6, d7, d8, d9, d10, d11, d12, d13⟩ := hh2.open
      have hlb : (litT t).length ≤ 140737488355328 := by
        have h1 := HBIG.out
        have h2 := sepT_mem cmaT (List.mem_map_of_mem (f := litT) (List.mem_of_getElem? hx))
        omega
      have HTO := Lib.hid (fun (W : World) (h : TermsRd W Aa t.a.a) (hw : TabW W) => (show Calls Tryz.prog 22 #[.agg #[.int .i64 kk, .string (bs t.a.p), .slice Aa na ca, .string (bs t.o), .bool t.l.v, .string (bs t.l.x), .bool t.l.s, .string (bs t.l.t), .int .i64 t.l.n, .bool t.r.v, .string (bs t.r.x), .bool t.r.s, .string (bs t.r.t), .int .i64 t.r.n]] W (fun e w' => e = .returned (.string E) ∧ Below W.heap.size W w') from by rw [← hE]; exact prLit_calls Aa na ca kk t W hkk hna h hgt hlb hw))
      have HTR := Lib.hid htr
      clear hkk hna hnca htr hlb
      clear how hb hh hh2 hgt hE hx
      go_wp2_with (first
        | (go_at_call 22; ((with_reducible refine (HTO.out _ (HTR.out.below ((Below.refl wr.heap.size wr).alloc (Nat.le_refl _) (.cells #[.int .i64 kk, .string (bs t.a.p), .slice Aa na ca, .string (bs t.o), .bool t.l.v, .string (bs t.l.x), .bool t.l.s, .string (bs t.l.t), .int .i64 t.l.n, .bool t.r.v, .string (bs t.r.x), .bool t.r.s, .string (bs t.r.t), .int .i64 t.r.n] 47))) (HWr.out.below ((Below.refl wr.heap.size wr).alloc (Nat.le_refl _) (.cells #[.int .i64 kk, .string (bs t.a.p), .slice Aa na ca, .string (bs t.o), .bool t.l.v, .string (bs t.l.x), .bool t.l.s, .string (bs t.l.t), .int .i64 t.l.n, .bool t.r.v, .string (bs t.r.x), .bool t.r.s, .string (bs t.r.t), .int .i64 t.r.n] 47)))).mono ?_); rintro e w2 ⟨rfl, hb2⟩; have HOW2 := Lib.hid (o_kb (HOW.out.alloc (.cells #[.int .i64 kk, .string (bs t.a.p), .slice Aa na ca, .string (bs t.o), .bool t.l.v, .string (bs t.l.x), .bool t.l.s, .string (bs t.l.t), .int .i64 t.l.n, .bool t.r.v, .string (bs t.r.x), .bool t.r.s, .string (bs t.r.t), .int .i64 t.r.n] 47)) hb2); have HB2 := Lib.hid ((HB.out.alloc HB.out.size (.cells #[.int .i64 kk, .string (bs t.a.p), .slice Aa na ca, .string (bs t.o), .bool t.l.v, .string (bs t.l.x), .bool t.l.s, .string (bs t.l.t), .int .i64 t.l.n, .bool t.r.v, .string (bs t.r.x), .bool t.r.s, .string (bs t.r.t), .int .i64 t.r.n] 47)).trans (hb2.mono (Nat.le_trans HB.out.size (by simp)))); clear hb2))
        | (refine o_app (W := w2) rfl (.tmp 14) (.tmp 18) 124 9 rfl (.string ⟨#[]⟩) 1 16 Tryz.underlying124 str_info rfl (by decide) (by decide) #[.string E] rfl (by intro u hu; simp at hu; subst hu; rfl) (.slice Ao k co) k (strV ((L.map litT).take k)) (by rfl) HOW2.out (by rfl) (by omega) HB2.out.size ?_; intro A3 c3 w3 how3 hg3; have HOW3 := Lib.hid (show w3.ownsRow w.heap.size 9 1 (.slice A3 (k + 1) c3) (k + 1) (strV ((L.map litT).take (k + 1))) by rw [HSN.out]; exact how3); have HB3 := Lib.hid (HB2.out.grown hg3 HB2.out.size (o_from HOW2.out)); clear how3 hg3))
      go_roundw
      case rel => exact ⟨k + 1, _, _, hlt, by simp, rfl, HOW3.out, HB3.out⟩
      case measure => simp [intOf]; omega
    · have hkn : k = n := by omega
      subst hkn
      have hd : decide ((k : Int) < (k : Int)) = false := decide_eq_false (by omega)
      have hall : (L.map litT).take k = L.map litT := List.take_of_length_le (by rw [List.length_map, ← HN.out]; exact Nat.le_refl _)
      rw [hall] at how
      have HOW := Lib.hid how
      have HJ := Lib.hid (show Calls Tryz.prog 74 #[.slice Ao k co, .string ⟨#[44, 32]⟩] wr (fun e w' => e = .returned (.string (bs (sepT cmaT (L.map litT)))) ∧ Below wr.heap.size wr w') from by
        have h := sjoin_calls Ao k co ((L.map litT).map bs) ⟨#[44, 32]⟩ wr (by rw [List.length_map, List.length_map]; exact HN.out) (strs_own how (by rw [List.length_map]; exact HN.out)) (by rw [txs_bs]; exact HBIG.out) (by omega) (own_cap how)
        rw [txs_bs] at h
        exact h)
      clear hb hlt hk how hall
      go_wp2_with (go_at_call 74; ((with_reducible refine HJ.out.mono ?_); rintro e w2 ⟨rfl, hb2⟩; have HB2 := Lib.hid (HB.out.trans (hb2.mono HB.out.size)); clear hb2))
      go_ret
      exact ⟨rfl, HB2.out⟩
end Go.Proofs.YtminbdcabacfbaaGreatDoor.V

namespace Go.Proofs.YtminbdcabacfbaaGreatDoor.V
set_option linter.unusedVariables false
set_option linter.unusedSimpArgs false
open Go.RowKit

set_option maxRecDepth 100000 in
set_option maxHeartbeats 16000000 in
theorem rfRule_calls (A B : Option Addr) (n c m d : Nat) (x : RuleL) (w : World) (hn : n = x.h.a.length) (hm : m = x.b.length) (hT : TermsRd w A x.h.a) (hL : LitsRd w B x.b) (hok : RuleOk' x) (hsm : wR x ≤ 1000000000) (hbig : (ruleT x).length ≤ 140737488355328) :
    Calls Tryz.prog 29 #[.agg #[.string (bs x.h.p), .slice A n c, .slice B m d]] w fun e w' => e = .returned (.string (bs (ruleT x))) ∧ Below w.heap.size w w' := by
  obtain ⟨⟨p, la⟩, lb⟩ := x
  dsimp only at hn hm hT hL ⊢
  unfold wR at hsm
  dsimp only at hsm
  have hbl := (Below.refl w.heap.size w).alloc (Nat.le_refl _) (.cells #[.string (bs p), .slice A n c, .slice B m d] 50)
  have hnw := heap_alloc_new w (.cells #[.string (bs p), .slice A n c, .slice B m d] 50)
  have HB0 := Lib.hid hbl
  have HT := Lib.hid (hT.below hbl)
  have HL := Lib.hid (hL.below hbl)
  have HM := Lib.hid hm
  have HNW := Lib.hid hnw
  have hm2 : m < 1000000000 := by rw [hm]; exact hok.2.1
  have HOK := Lib.hid (fun (t : LitL) (ht : t ∈ lb) => (show LitOk' t ∧ wL t ≤ 1000000000 from ⟨hok.2.2 t ht, by
    have h1 := sum_mem wL ht
    omega⟩))
  have hE0 : ruleT ⟨⟨p, la⟩, lb⟩ = accT (atomT ⟨p, la⟩) [32, 58, 45, 32] (lb.map litT) ++ [46] := by
    unfold ruleT accT
    by_cases h : lb = []
    · subst h; rfl
    · rw [if_neg h, if_neg (by simpa using h)]
  rw [hE0] at hbig ⊢
  rw [List.length_append] at hbig
  have HACC := Lib.hid (show (accT (atomT ⟨p, la⟩) [32, 58, 45, 32] (lb.map litT)).length ≤ 140737488355328 from by omega)
  have h00 := acc_le (atomT ⟨p, la⟩) [32, 58, 45, 32] (lb.map litT) 0
  rw [acc_zero] at h00
  have hend := add_bs (accT (atomT ⟨p, la⟩) [32, 58, 45, 32] (lb.map litT)) [46] hbig
  obtain ⟨Z0, hZ0⟩ : ∃ Z, bs (accT (atomT ⟨p, la⟩) [32, 58, 45, 32] (lb.map litT) ++ [46]) = Z := ⟨_, rfl⟩
  rw [hZ0] at hend ⊢
  have HEND := Lib.hid (show ∀ W, (Op.stringOp .add (bs (accT (atomT ⟨p, la⟩) [32, 58, 45, 32] (lb.map litT))) ⟨#[46]⟩).run Tryz.prog W = .ok (.string Z0) W from hend)
  obtain ⟨E0, hEE⟩ : ∃ E, bs (atomT ⟨p, la⟩) = E := ⟨_, rfl⟩
  have HE0 := Lib.hid (show Value.string E0 = .string (bs (accT (atomT ⟨p, la⟩) [32, 58, 45, 32] ((lb.map litT).take 0))) from by rw [acc_zero, hEE])
  have HAT := Lib.hid (fun (W : World) (h : TermsRd W A la) => (show Calls Tryz.prog 27 #[.agg #[.string (bs p), .slice A n c]] W (fun e w' => e = .returned (.string E0) ∧ Below W.heap.size W w') from by rw [← hEE]; exact rfAtom_calls A n c ⟨p, la⟩ W hn h hok.1 (by omega) (by omega)))
  have d0 := cell_of_row _ _ 0 _ _ _ hnw
  have d1 := cell_of_row _ _ 1 _ _ _ hnw
  clear hbl hn hm hT hL hok hbig hsm hnw hE0 h00 hend hZ0 hEE
  go_enter Tryz.func29, Tryz.ntmps29
  go_wp2_with (go_at_call 27; ((with_reducible refine (HAT.out _ HT.out).mono ?_); rintro e w2 ⟨rfl, hb2⟩; have HB2 := Lib.hid (HB0.out.trans (hb2.mono HB0.out.size)); have HL2 := Lib.hid (HL.out.below hb2); have HD2 := Lib.hid (cell_below hb2 (cell_of_row _ _ 2 _ _ _ HNW.out)); clear hb2 d0 d1))
  go_loopw [3, 4] (fun o i wr => ∃ k : Nat, k ≤ m ∧ i = .int .i64 (k : Int) ∧ o = .string (bs (accT (atomT ⟨p, la⟩) [32, 58, 45, 32] ((lb.map litT).take k))) ∧ Below w2.heap.size w2 wr) (fun _ i _ => m + 1 - (intOf i).toNat)
  case atStart => exact ⟨0, Nat.zero_le _, rfl, HE0.out, Below.refl _ _⟩
  case round =>
    obtain ⟨k, hk, rfl, rfl, hb⟩ := hrel
    have HB := Lib.hid hb
    have a1 := cell_below hb HD2.out
    by_cases hlt : k < m
    · have HLT := Lib.hid hlt
      have hd : decide ((k : Int) < (m : Int)) = true := decide_eq_true (by omega)
      obtain ⟨t, hx⟩ : ∃ t, lb[k]? = some t := ⟨_, List.getElem?_eq_getElem (by rw [← HM.out]; exact hlt)⟩
      obtain ⟨g, rfl, hc⟩ := HL2.out k t hx
      have hc' := hc.below hb
      have hxt : (lb.map litT)[k]? = some (litT t) := by rw [List.getElem?_map, hx]; rfl
      have hle := acc_le (atomT ⟨p, la⟩) [32, 58, 45, 32] (lb.map litT) (k + 1)
      have hacc := HACC.out
      have hlt2 : (litT t).length ≤ (accT (atomT ⟨p, la⟩) [32, 58, 45, 32] (lb.map litT)).length := by
        refine Nat.le_trans ?_ hle
        by_cases h0 : k = 0
        · rw [acc_first h0 hxt]; simp only [List.length_append]; omega
        · rw [acc_next h0 hxt]; simp only [List.length_append]; omega
      obtain ⟨kk, Aa, na, ca, hkk, hna, hca, htr, p0, p1, p2, p3, p4, p5, p6, p7, p8, p9, p10, p11, p12, p13⟩ := hc'.open
      have hok := HOK.out t (List.mem_of_getElem? hx)
      obtain ⟨E, hE⟩ : ∃ E, bs (litT t) = E := ⟨_, rfl⟩
      have HC := Lib.hid (fun (W : World) (h : TermsRd W Aa t.a.a) => (show Calls Tryz.prog 23 #[.agg #[.int .i64 kk, .string (bs t.a.p), .slice Aa na ca, .string (bs t.o), .bool t.l.v, .string (bs t.l.x), .bool t.l.s, .string (bs t.l.t), .int .i64 t.l.n, .bool t.r.v, .string (bs t.r.x), .bool t.r.s, .string (bs t.r.t), .int .i64 t.r.n]] W (fun e w' => e = .returned (.string E) ∧ Below W.heap.size W w') from by rw [← hE]; exact rfLit_calls Aa na ca kk t W hkk hna h hok.1 hok.2 (by omega)))
      have HTR := Lib.hid htr
      obtain ⟨X, hX⟩ : ∃ X, bs (accT (atomT ⟨p, la⟩) [32, 58, 45, 32] ((lb.map litT).take k)) = X := ⟨_, rfl⟩
      obtain ⟨Z, hZ⟩ : ∃ Z, bs (accT (atomT ⟨p, la⟩) [32, 58, 45, 32] ((lb.map litT).take (k + 1))) = Z := ⟨_, rfl⟩
      rw [hX]
      clear hc hc' hlt2
      by_cases hk0 : k = 0
      · have he := acc_first (p := atomT ⟨p, la⟩) (op := [32, 58, 45, 32]) hk0 hxt
        have hkd : ((k : Int) == 0) = true := by rw [hk0]; rfl
        rw [he] at hle hZ
        simp only [List.length_append] at hle
        have a40 : ∀ W, (Op.stringOp .add X ⟨#[32, 58, 45, 32]⟩).run Tryz.prog W = .ok (.string (bs (accT (atomT ⟨p, la⟩) [32, 58, 45, 32] ((lb.map litT).take k) ++ [32, 58, 45, 32]))) W := fun W => by rw [← hX]; exact add_bs _ [32, 58, 45, 32] (by omega) W
        obtain ⟨Y, hY⟩ : ∃ Y, bs (accT (atomT ⟨p, la⟩) [32, 58, 45, 32] ((lb.map litT).take k) ++ [32, 58, 45, 32]) = Y := ⟨_, rfl⟩
        have a41 : ∀ W, (Op.stringOp .add Y E).run Tryz.prog W = .ok (.string Z) W := fun W => by rw [← hY, ← hE, ← hZ]; exact add_bs _ _ (by simp only [List.length_append]; omega) W
        rw [hY] at a40
        have HZ := Lib.hid (show Value.string Z = .string (bs (accT (atomT ⟨p, la⟩) [32, 58, 45, 32] ((lb.map litT).take (k + 1)))) by rw [he, hZ])
        clear hb hx hxt hle hacc hE hX hZ hY he hk0 hkk hna hca htr hok
        go_wp2_with (go_at_call 23; ((with_reducible refine (HC.out _ HTR.out).mono ?_); rintro e w3 ⟨rfl, hb2⟩; have HB3 := Lib.hid (HB.out.trans (hb2.mono HB.out.size)); clear hb2))
        go_roundw
        case rel => exact ⟨k + 1, HLT.out, by simp, HZ.out, HB3.out⟩
        case measure => simp [intOf]; have := HLT.out; omega
      · have he := acc_next (p := atomT ⟨p, la⟩) (op := [32, 58, 45, 32]) hk0 hxt
        have hkd : ((k : Int) == 0) = false := beq_eq_false_iff_ne.2 (by omega)
        rw [he] at hle hZ
        simp only [List.length_append] at hle
        have a40 : ∀ W, (Op.stringOp .add X ⟨#[44, 32]⟩).run Tryz.prog W = .ok (.string (bs (accT (atomT ⟨p, la⟩) [32, 58, 45, 32] ((lb.map litT).take k) ++ cmaT))) W := fun W => by rw [← hX]; exact add_bs _ cmaT (by omega) W
        obtain ⟨Y, hY⟩ : ∃ Y, bs (accT (atomT ⟨p, la⟩) [32, 58, 45, 32] ((lb.map litT).take k) ++ cmaT) = Y := ⟨_, rfl⟩
        have a41 : ∀ W, (Op.stringOp .add Y E).run Tryz.prog W = .ok (.string Z) W := fun W => by rw [← hY, ← hE, ← hZ]; exact add_bs _ _ (by simp only [List.length_append]; omega) W
        rw [hY] at a40
        have HZ := Lib.hid (show Value.string Z = .string (bs (accT (atomT ⟨p, la⟩) [32, 58, 45, 32] ((lb.map litT).take (k + 1)))) by rw [he, hZ])
        clear hb hx hxt hle hacc hE hX hZ hY he hk0 hkk hna hca htr hok
        go_wp2_with (go_at_call 23; ((with_reducible refine (HC.out _ HTR.out).mono ?_); rintro e w3 ⟨rfl, hb2⟩; have HB3 := Lib.hid (HB.out.trans (hb2.mono HB.out.size)); clear hb2))
        go_roundw
        case rel => exact ⟨k + 1, HLT.out, by simp, HZ.out, HB3.out⟩
        case measure => simp [intOf]; have := HLT.out; omega
    · have hkn : m = k := by omega
      subst hkn
      have hd : decide ((m : Int) < (m : Int)) = false := decide_eq_false (by omega)
      have hall : (lb.map litT).take m = lb.map litT := List.take_of_length_le (by rw [List.length_map, ← HM.out]; exact Nat.le_refl _)
      rw [hall]
      have hend := HEND.out
      obtain ⟨X, hX⟩ : ∃ X, bs (accT (atomT ⟨p, la⟩) [32, 58, 45, 32] (lb.map litT)) = X := ⟨_, rfl⟩
      rw [hX] at hend ⊢
      clear hb hlt hk hall hX
      go_wp2_with fail
      go_ret
      exact ⟨rfl, HB2.out.trans (HB.out.mono HB2.out.size)⟩
end Go.Proofs.YtminbdcabacfbaaGreatDoor.V

namespace Go.Proofs.YtminbdcabacfbaaGreatDoor.V
set_option linter.unusedVariables false
set_option linter.unusedSimpArgs false
open Go.RowKit

theorem o_drew {W : World} {q e z n : Nat} {v : Value} {xs : List Value} (h : W.ownsRow q e z v n xs) : W.drew.ownsRow q e z v n xs := o_kb h (Below.refl _ _).drew
theorem IsAt.drew {T : Nat} {v0 v1 : Value} {w : World} (h : IsAt T v0 v1 w) : IsAt T v0 v1 w.drew := h
end Go.Proofs.YtminbdcabacfbaaGreatDoor.V
