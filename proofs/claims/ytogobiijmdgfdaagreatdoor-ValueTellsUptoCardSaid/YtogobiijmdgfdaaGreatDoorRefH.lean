/- The document's Holds; both Holds say the same. Printed by genrefh.py. -/
import Derived.Test.YtogobiijmdgfdaaGreatDoorRefC
namespace Go.Proofs.YtogobiijmdgfdaaGreatDoor.V
set_option linter.unusedVariables false
set_option linter.unusedSimpArgs false
open Go.RowKit

set_option maxRecDepth 100000 in
set_option maxHeartbeats 8000000 in
theorem refHolds_at0 (o : ByteArray) (h0 : (o.toList == ([61] : List UInt8)) = true) (s : Bool) (t : ByteArray) (n : Int) (s' : Bool) (t' : ByteArray) (n' : Int) (w : World) (c : Int) (hC : cmpV s t.toList n s' t'.toList n' = c) (ht : t.size ≤ 1048576) (ht' : t'.size ≤ 1048576) :
    Calls Tryz.prog 7 #[.string o, .agg #[.bool s, .string t, .int .i64 n], .agg #[.bool s', .string t', .int .i64 n']] w fun e w' => e = .returned (.tuple #[.bool (c == 0), .bool true]) ∧ Below w.heap.size w w' := by
  have HB := Lib.hid (((Below.refl w.heap.size w).alloc (Nat.le_refl _) (.cells #[.bool s, .string t, .int .i64 n] 23)).alloc (by simp) (.cells #[.bool s', .string t', .int .i64 n'] 23))
  have EC := Lib.hid hC
  have HT := Lib.hid (And.intro ht ht')
  clear hC ht ht'
  go_enter Tryz.func7, Tryz.ntmps7
  go_wp2_with fail
  refine (refCompare_calls _ _ _ _ _ _ _ HT.out.1 HT.out.2).mono ?_
  rintro e w2 ⟨rfl, hb⟩
  have hb2 := below_then HB.out hb HB.out.size
  rw [EC.out]
  clear hb HB
  go_wp2_with fail
  exact bodyPost_ret (v := .tuple #[.bool (c == 0), .bool true]) (by simp [results, Tryz.results7, go_sem]) rfl ⟨rfl, hb2⟩

set_option maxRecDepth 100000 in
set_option maxHeartbeats 8000000 in
theorem refHolds_at1 (o : ByteArray) (h0 : (o.toList == ([61] : List UInt8)) = false) (h1 : (o.toList == ([33, 61] : List UInt8)) = true) (s : Bool) (t : ByteArray) (n : Int) (s' : Bool) (t' : ByteArray) (n' : Int) (w : World) (c : Int) (hC : cmpV s t.toList n s' t'.toList n' = c) (ht : t.size ≤ 1048576) (ht' : t'.size ≤ 1048576) :
    Calls Tryz.prog 7 #[.string o, .agg #[.bool s, .string t, .int .i64 n], .agg #[.bool s', .string t', .int .i64 n']] w fun e w' => e = .returned (.tuple #[.bool (c != 0), .bool true]) ∧ Below w.heap.size w w' := by
  have HB := Lib.hid (((Below.refl w.heap.size w).alloc (Nat.le_refl _) (.cells #[.bool s, .string t, .int .i64 n] 23)).alloc (by simp) (.cells #[.bool s', .string t', .int .i64 n'] 23))
  have EC := Lib.hid hC
  have HT := Lib.hid (And.intro ht ht')
  clear hC ht ht'
  go_enter Tryz.func7, Tryz.ntmps7
  go_wp2_with fail
  refine (refCompare_calls _ _ _ _ _ _ _ HT.out.1 HT.out.2).mono ?_
  rintro e w2 ⟨rfl, hb⟩
  have hb2 := below_then HB.out hb HB.out.size
  rw [EC.out]
  clear hb HB
  go_wp2_with fail
  exact bodyPost_ret (v := .tuple #[.bool (c != 0), .bool true]) (by simp [results, Tryz.results7, go_sem]) rfl ⟨rfl, hb2⟩

set_option maxRecDepth 100000 in
set_option maxHeartbeats 8000000 in
theorem refHolds_at2 (o : ByteArray) (h0 : (o.toList == ([61] : List UInt8)) = false) (h1 : (o.toList == ([33, 61] : List UInt8)) = false) (h2 : (o.toList == ([60] : List UInt8)) = true) (s : Bool) (t : ByteArray) (n : Int) (s' : Bool) (t' : ByteArray) (n' : Int) (w : World) (c : Int) (hC : cmpV s t.toList n s' t'.toList n' = c) (ht : t.size ≤ 1048576) (ht' : t'.size ≤ 1048576) :
    Calls Tryz.prog 7 #[.string o, .agg #[.bool s, .string t, .int .i64 n], .agg #[.bool s', .string t', .int .i64 n']] w fun e w' => e = .returned (.tuple #[.bool (c == -1), .bool true]) ∧ Below w.heap.size w w' := by
  have HB := Lib.hid (((Below.refl w.heap.size w).alloc (Nat.le_refl _) (.cells #[.bool s, .string t, .int .i64 n] 23)).alloc (by simp) (.cells #[.bool s', .string t', .int .i64 n'] 23))
  have EC := Lib.hid hC
  have HT := Lib.hid (And.intro ht ht')
  clear hC ht ht'
  go_enter Tryz.func7, Tryz.ntmps7
  go_wp2_with fail
  refine (refCompare_calls _ _ _ _ _ _ _ HT.out.1 HT.out.2).mono ?_
  rintro e w2 ⟨rfl, hb⟩
  have hb2 := below_then HB.out hb HB.out.size
  rw [EC.out]
  clear hb HB
  go_wp2_with fail
  exact bodyPost_ret (v := .tuple #[.bool (c == -1), .bool true]) (by simp [results, Tryz.results7, go_sem]) rfl ⟨rfl, hb2⟩

set_option maxRecDepth 100000 in
set_option maxHeartbeats 8000000 in
theorem refHolds_at3 (o : ByteArray) (h0 : (o.toList == ([61] : List UInt8)) = false) (h1 : (o.toList == ([33, 61] : List UInt8)) = false) (h2 : (o.toList == ([60] : List UInt8)) = false) (h3 : (o.toList == ([60, 61] : List UInt8)) = true) (s : Bool) (t : ByteArray) (n : Int) (s' : Bool) (t' : ByteArray) (n' : Int) (w : World) (c : Int) (hC : cmpV s t.toList n s' t'.toList n' = c) (ht : t.size ≤ 1048576) (ht' : t'.size ≤ 1048576) :
    Calls Tryz.prog 7 #[.string o, .agg #[.bool s, .string t, .int .i64 n], .agg #[.bool s', .string t', .int .i64 n']] w fun e w' => e = .returned (.tuple #[.bool (c != 1), .bool true]) ∧ Below w.heap.size w w' := by
  have HB := Lib.hid (((Below.refl w.heap.size w).alloc (Nat.le_refl _) (.cells #[.bool s, .string t, .int .i64 n] 23)).alloc (by simp) (.cells #[.bool s', .string t', .int .i64 n'] 23))
  have EC := Lib.hid hC
  have HT := Lib.hid (And.intro ht ht')
  clear hC ht ht'
  go_enter Tryz.func7, Tryz.ntmps7
  go_wp2_with fail
  refine (refCompare_calls _ _ _ _ _ _ _ HT.out.1 HT.out.2).mono ?_
  rintro e w2 ⟨rfl, hb⟩
  have hb2 := below_then HB.out hb HB.out.size
  rw [EC.out]
  clear hb HB
  go_wp2_with fail
  exact bodyPost_ret (v := .tuple #[.bool (c != 1), .bool true]) (by simp [results, Tryz.results7, go_sem]) rfl ⟨rfl, hb2⟩

set_option maxRecDepth 100000 in
set_option maxHeartbeats 8000000 in
theorem refHolds_at4 (o : ByteArray) (h0 : (o.toList == ([61] : List UInt8)) = false) (h1 : (o.toList == ([33, 61] : List UInt8)) = false) (h2 : (o.toList == ([60] : List UInt8)) = false) (h3 : (o.toList == ([60, 61] : List UInt8)) = false) (h4 : (o.toList == ([62] : List UInt8)) = true) (s : Bool) (t : ByteArray) (n : Int) (s' : Bool) (t' : ByteArray) (n' : Int) (w : World) (c : Int) (hC : cmpV s t.toList n s' t'.toList n' = c) (ht : t.size ≤ 1048576) (ht' : t'.size ≤ 1048576) :
    Calls Tryz.prog 7 #[.string o, .agg #[.bool s, .string t, .int .i64 n], .agg #[.bool s', .string t', .int .i64 n']] w fun e w' => e = .returned (.tuple #[.bool (c == 1), .bool true]) ∧ Below w.heap.size w w' := by
  have HB := Lib.hid (((Below.refl w.heap.size w).alloc (Nat.le_refl _) (.cells #[.bool s, .string t, .int .i64 n] 23)).alloc (by simp) (.cells #[.bool s', .string t', .int .i64 n'] 23))
  have EC := Lib.hid hC
  have HT := Lib.hid (And.intro ht ht')
  clear hC ht ht'
  go_enter Tryz.func7, Tryz.ntmps7
  go_wp2_with fail
  refine (refCompare_calls _ _ _ _ _ _ _ HT.out.1 HT.out.2).mono ?_
  rintro e w2 ⟨rfl, hb⟩
  have hb2 := below_then HB.out hb HB.out.size
  rw [EC.out]
  clear hb HB
  go_wp2_with fail
  exact bodyPost_ret (v := .tuple #[.bool (c == 1), .bool true]) (by simp [results, Tryz.results7, go_sem]) rfl ⟨rfl, hb2⟩

set_option maxRecDepth 100000 in
set_option maxHeartbeats 8000000 in
theorem refHolds_at5 (o : ByteArray) (h0 : (o.toList == ([61] : List UInt8)) = false) (h1 : (o.toList == ([33, 61] : List UInt8)) = false) (h2 : (o.toList == ([60] : List UInt8)) = false) (h3 : (o.toList == ([60, 61] : List UInt8)) = false) (h4 : (o.toList == ([62] : List UInt8)) = false) (h5 : (o.toList == ([62, 61] : List UInt8)) = true) (s : Bool) (t : ByteArray) (n : Int) (s' : Bool) (t' : ByteArray) (n' : Int) (w : World) (c : Int) (hC : cmpV s t.toList n s' t'.toList n' = c) (ht : t.size ≤ 1048576) (ht' : t'.size ≤ 1048576) :
    Calls Tryz.prog 7 #[.string o, .agg #[.bool s, .string t, .int .i64 n], .agg #[.bool s', .string t', .int .i64 n']] w fun e w' => e = .returned (.tuple #[.bool (c != -1), .bool true]) ∧ Below w.heap.size w w' := by
  have HB := Lib.hid (((Below.refl w.heap.size w).alloc (Nat.le_refl _) (.cells #[.bool s, .string t, .int .i64 n] 23)).alloc (by simp) (.cells #[.bool s', .string t', .int .i64 n'] 23))
  have EC := Lib.hid hC
  have HT := Lib.hid (And.intro ht ht')
  clear hC ht ht'
  go_enter Tryz.func7, Tryz.ntmps7
  go_wp2_with fail
  refine (refCompare_calls _ _ _ _ _ _ _ HT.out.1 HT.out.2).mono ?_
  rintro e w2 ⟨rfl, hb⟩
  have hb2 := below_then HB.out hb HB.out.size
  rw [EC.out]
  clear hb HB
  go_wp2_with fail
  exact bodyPost_ret (v := .tuple #[.bool (c != -1), .bool true]) (by simp [results, Tryz.results7, go_sem]) rfl ⟨rfl, hb2⟩

set_option maxRecDepth 100000 in
set_option maxHeartbeats 8000000 in
theorem refHolds_at6 (o : ByteArray) (h0 : (o.toList == ([61] : List UInt8)) = false) (h1 : (o.toList == ([33, 61] : List UInt8)) = false) (h2 : (o.toList == ([60] : List UInt8)) = false) (h3 : (o.toList == ([60, 61] : List UInt8)) = false) (h4 : (o.toList == ([62] : List UInt8)) = false) (h5 : (o.toList == ([62, 61] : List UInt8)) = false) (s : Bool) (t : ByteArray) (n : Int) (s' : Bool) (t' : ByteArray) (n' : Int) (w : World) (c : Int) (hC : cmpV s t.toList n s' t'.toList n' = c) (ht : t.size ≤ 1048576) (ht' : t'.size ≤ 1048576) :
    Calls Tryz.prog 7 #[.string o, .agg #[.bool s, .string t, .int .i64 n], .agg #[.bool s', .string t', .int .i64 n']] w fun e w' => e = .returned (.tuple #[.bool false, .bool false]) ∧ Below w.heap.size w w' := by
  have HB := Lib.hid (((Below.refl w.heap.size w).alloc (Nat.le_refl _) (.cells #[.bool s, .string t, .int .i64 n] 23)).alloc (by simp) (.cells #[.bool s', .string t', .int .i64 n'] 23))
  have EC := Lib.hid hC
  have HT := Lib.hid (And.intro ht ht')
  clear hC ht ht'
  go_enter Tryz.func7, Tryz.ntmps7
  go_wp2_with fail
  refine (refCompare_calls _ _ _ _ _ _ _ HT.out.1 HT.out.2).mono ?_
  rintro e w2 ⟨rfl, hb⟩
  have hb2 := below_then HB.out hb HB.out.size
  rw [EC.out]
  clear hb HB
  go_wp2_with fail
  exact bodyPost_ret (v := .tuple #[.bool false, .bool false]) (by simp [results, Tryz.results7, go_sem]) rfl ⟨rfl, hb2⟩

/-- Both Holds say the same, whatever the operator. -/
theorem holds_both (o : ByteArray) (s : Bool) (t : ByteArray) (n : Int) (s' : Bool) (t' : ByteArray) (n' : Int) (ht : t.size ≤ 1048576) (ht' : t'.size ≤ 1048576) : ∃ p q : Bool,
    (∀ w, Calls Tryz.prog 6 #[.string o, .agg #[.bool s, .string t, .int .i64 n], .agg #[.bool s', .string t', .int .i64 n']] w fun e w' => e = .returned (.tuple #[.bool p, .bool q]) ∧ Below w.heap.size w w') ∧
    (∀ w, Calls Tryz.prog 7 #[.string o, .agg #[.bool s, .string t, .int .i64 n], .agg #[.bool s', .string t', .int .i64 n']] w fun e w' => e = .returned (.tuple #[.bool p, .bool q]) ∧ Below w.heap.size w w') := by
  have hv := cmpV_vals s t.toList n s' t'.toList n'
  obtain ⟨c, hC⟩ : ∃ c, cmpV s t.toList n s' t'.toList n' = c := ⟨_, rfl⟩
  rw [hC] at hv
  have fl : ∀ l : List UInt8, ¬ o.toList = l → (l == o.toList) = false := fun l h => beq_eq_false_iff_ne.2 (fun e => h e.symm)
  have fr : ∀ l : List UInt8, ¬ o.toList = l → (o.toList == l) = false := fun l h => beq_eq_false_iff_ne.2 h
  by_cases q0 : o.toList = [61]
  · refine ⟨c == 0, true, fun w => holds_at0 o  (by rw [q0]; rfl) s t n s' t' n' w c hC, fun w => ?_⟩
    rw [show (c == 0) = (c == 0) by rcases hv with rfl | rfl | rfl <;> rfl]
    exact refHolds_at0 o  (by rw [q0]; rfl) s t n s' t' n' w c hC ht ht'
  by_cases q1 : o.toList = [33, 61]
  · refine ⟨c != 0, true, fun w => holds_at1 o (fl _ q0) (by rw [q1]; rfl) s t n s' t' n' w c hC, fun w => ?_⟩
    rw [show (c != 0) = (c != 0) by rcases hv with rfl | rfl | rfl <;> rfl]
    exact refHolds_at1 o (fr _ q0) (by rw [q1]; rfl) s t n s' t' n' w c hC ht ht'
  by_cases q2 : o.toList = [60]
  · refine ⟨decide (c < 0), true, fun w => holds_at2 o (fl _ q0) (fl _ q1) (by rw [q2]; rfl) s t n s' t' n' w c hC, fun w => ?_⟩
    rw [show (decide (c < 0)) = (c == -1) by rcases hv with rfl | rfl | rfl <;> rfl]
    exact refHolds_at2 o (fr _ q0) (fr _ q1) (by rw [q2]; rfl) s t n s' t' n' w c hC ht ht'
  by_cases q3 : o.toList = [60, 61]
  · refine ⟨decide (c ≤ 0), true, fun w => holds_at3 o (fl _ q0) (fl _ q1) (fl _ q2) (by rw [q3]; rfl) s t n s' t' n' w c hC, fun w => ?_⟩
    rw [show (decide (c ≤ 0)) = (c != 1) by rcases hv with rfl | rfl | rfl <;> rfl]
    exact refHolds_at3 o (fr _ q0) (fr _ q1) (fr _ q2) (by rw [q3]; rfl) s t n s' t' n' w c hC ht ht'
  by_cases q4 : o.toList = [62]
  · refine ⟨decide (c > 0), true, fun w => holds_at4 o (fl _ q0) (fl _ q1) (fl _ q2) (fl _ q3) (by rw [q4]; rfl) s t n s' t' n' w c hC, fun w => ?_⟩
    rw [show (decide (c > 0)) = (c == 1) by rcases hv with rfl | rfl | rfl <;> rfl]
    exact refHolds_at4 o (fr _ q0) (fr _ q1) (fr _ q2) (fr _ q3) (by rw [q4]; rfl) s t n s' t' n' w c hC ht ht'
  by_cases q5 : o.toList = [62, 61]
  · refine ⟨decide (c ≥ 0), true, fun w => holds_at5 o (fl _ q0) (fl _ q1) (fl _ q2) (fl _ q3) (fl _ q4) (by rw [q5]; rfl) s t n s' t' n' w c hC, fun w => ?_⟩
    rw [show (decide (c ≥ 0)) = (c != -1) by rcases hv with rfl | rfl | rfl <;> rfl]
    exact refHolds_at5 o (fr _ q0) (fr _ q1) (fr _ q2) (fr _ q3) (fr _ q4) (by rw [q5]; rfl) s t n s' t' n' w c hC ht ht'
  exact ⟨false, false, fun w => holds_at6 o (fl _ q0) (fl _ q1) (fl _ q2) (fl _ q3) (fl _ q4) (fl _ q5) s t n s' t' n' w c hC, fun w => refHolds_at6 o (fr _ q0) (fr _ q1) (fr _ q2) (fr _ q3) (fr _ q4) (fr _ q5) s t n s' t' n' w c hC ht ht'⟩
end Go.Proofs.YtogobiijmdgfdaaGreatDoor.V
