/- The walk of ValueMakes: whatever the symbols' letters and the numbers, it returns true. -/
import Derived.Test.YtogobiijmdgfdaaDoorShown
import Derived.Test.YtogobiijmdgfdaaDoorBox
namespace Go.Proofs.YtogobiijmdgfdaaDoor.V
set_option linter.unusedVariables false
set_option linter.unusedSimpArgs false
open Go.RowKit

set_option maxRecDepth 100000 in
set_option maxHeartbeats 16000000 in
theorem makes_walk (s t : ByteArray) (n m : Int) (w : World) (hw : TabW w) :
    Calls Tryd.prog 4 #[.string s, .string t, .int .i64 n, .int .i64 m] w fun e w' => e = .returned (.bool true) ∧ Below w.heap.size w w' := by
  obtain ⟨X, hX⟩ : ∃ X, cmpV true s.toList 0 true t.toList 0 = X := ⟨_, rfl⟩
  obtain ⟨Y, hY⟩ : ∃ Y, cmpV false (⟨#[]⟩ : ByteArray).toList n false (⟨#[]⟩ : ByteArray).toList m = Y := ⟨_, rfl⟩
  have E1 := Lib.hid (show cmpV false (⟨#[]⟩ : ByteArray).toList n true s.toList 0 = -1 from rfl)
  have E2 := Lib.hid hX
  have E3 := Lib.hid hY
  have L2 : (decide (X < 0) == Op.bytesLess s.toList t.toList) = true := by rw [← hX, beq_iff_eq]; exact cmpS_less _ _
  have L3 : (decide (Y < 0) == decide (n < m)) = true := by rw [← hY, beq_iff_eq]; exact cmpN_less _ _
  have HW := Lib.hid hw
  clear hw hX hY
  go_enter Tryd.func4, Tryd.ntmps4
  go_wp2_with fail
  refine (shown_calls _ HW.out).mono ?_
  rintro e w0 ⟨rfl, hb0⟩
  have H0 := Lib.hid hb0
  clear hb0 HW
  go_wp2_with fail
  refine (sym_calls _ _).mono ?_
  rintro e w1 ⟨rfl, hb1⟩
  have H1 := Lib.hid (below_then H0.out hb1 H0.out.size)
  clear hb1
  go_wp2_with fail
  refine (int_calls _ _).mono ?_
  rintro e w2 ⟨rfl, hb2⟩
  have k1 := (hb2.block w1.heap.size (by simp)).trans (heap_alloc_new w1 (.cells #[.bool true, .string s, .int .i64 0] 23))
  have k2 := old_block (.cells #[.bool false, .string ⟨#[]⟩, .int .i64 n] 23) k1
  have k3 := heap_alloc_new w2 (.cells #[.bool false, .string ⟨#[]⟩, .int .i64 n] 23)
  have H3 := Lib.hid (show Below w.heap.size w (w2.alloc (.cells #[.bool false, .string ⟨#[]⟩, .int .i64 n] 23)) by
    have h1 : Below w.heap.size w (w1.alloc (.cells #[.bool true, .string s, .int .i64 0] 23)) := H1.out.alloc H1.out.size _
    have h2 := below_then h1 hb2 (by have := H1.out.size; simp; omega)
    exact h2.alloc h2.size _)
  have HK2 := Lib.hid k2
  have HK3 := Lib.hid k3
  clear hb2 k1 k2 k3 H0 H1
  go_wp2_with fail
  obtain ⟨w3, hw3⟩ : ∃ w3, w2.alloc (.cells #[.bool false, .string ⟨#[]⟩, .int .i64 n] 23) = w3 := ⟨_, rfl⟩
  have k2 := HK2.out
  have k3 := HK3.out
  rw [hw3] at k2 k3 H3 ⊢
  have A0 := Lib.hid (show w3.cell? ⟨w1.heap.size, 0, none⟩ = some (.bool true) from cell_of_row _ _ 0 _ _ _ k2)
  have A1 := Lib.hid (show w3.cell? ⟨w1.heap.size, 1, none⟩ = some (.string s) from cell_of_row _ _ 1 _ _ _ k2)
  have A2 := Lib.hid (show w3.cell? ⟨w1.heap.size, 2, none⟩ = some (.int .i64 0) from cell_of_row _ _ 2 _ _ _ k2)
  have B0 := Lib.hid (show w3.cell? ⟨w2.heap.size, 0, none⟩ = some (.bool false) from cell_of_row _ _ 0 _ _ _ k3)
  have B1 := Lib.hid (show w3.cell? ⟨w2.heap.size, 1, none⟩ = some (.string ⟨#[]⟩) from cell_of_row _ _ 1 _ _ _ k3)
  have B2 := Lib.hid (show w3.cell? ⟨w2.heap.size, 2, none⟩ = some (.int .i64 n) from cell_of_row _ _ 2 _ _ _ k3)
  have hlt := (Array.getElem?_eq_some_iff.1 k3).1
  clear k2 k3 hw3 HK2 HK3
  go_region_held3 (fun W => (W.cell? ⟨w1.heap.size, 0, none⟩ = some (.bool true) ∧ W.cell? ⟨w1.heap.size, 1, none⟩ = some (.string s) ∧ W.cell? ⟨w1.heap.size, 2, none⟩ = some (.int .i64 0) ∧ W.cell? ⟨w2.heap.size, 0, none⟩ = some (.bool false) ∧ W.cell? ⟨w2.heap.size, 1, none⟩ = some (.string ⟨#[]⟩) ∧ W.cell? ⟨w2.heap.size, 2, none⟩ = some (.int .i64 n)) ∧ Below w3.heap.size w3 W)
    ((go_split_ands; refine ⟨⟨?_, ?_, ?_, ?_, ?_, ?_⟩, ?_⟩; (focus (first | with_reducible assumption | (refine cell_below (w := w3) ?_ A0.out; (focus (repeat (first | with_reducible assumption | with_reducible exact Below.refl _ _ | with_reducible apply Below.drew | (with_reducible refine Below.alloc ?_ ?_ _; rotate_left; focus ((first | omega | (simp <;> omega)); done)))))))); (focus (first | with_reducible assumption | (refine cell_below (w := w3) ?_ A1.out; (focus (repeat (first | with_reducible assumption | with_reducible exact Below.refl _ _ | with_reducible apply Below.drew | (with_reducible refine Below.alloc ?_ ?_ _; rotate_left; focus ((first | omega | (simp <;> omega)); done)))))))); (focus (first | with_reducible assumption | (refine cell_below (w := w3) ?_ A2.out; (focus (repeat (first | with_reducible assumption | with_reducible exact Below.refl _ _ | with_reducible apply Below.drew | (with_reducible refine Below.alloc ?_ ?_ _; rotate_left; focus ((first | omega | (simp <;> omega)); done)))))))); (focus (first | with_reducible assumption | (refine cell_below (w := w3) ?_ B0.out; (focus (repeat (first | with_reducible assumption | with_reducible exact Below.refl _ _ | with_reducible apply Below.drew | (with_reducible refine Below.alloc ?_ ?_ _; rotate_left; focus ((first | omega | (simp <;> omega)); done)))))))); (focus (first | with_reducible assumption | (refine cell_below (w := w3) ?_ B1.out; (focus (repeat (first | with_reducible assumption | with_reducible exact Below.refl _ _ | with_reducible apply Below.drew | (with_reducible refine Below.alloc ?_ ?_ _; rotate_left; focus ((first | omega | (simp <;> omega)); done)))))))); (focus (first | with_reducible assumption | (refine cell_below (w := w3) ?_ B2.out; (focus (repeat (first | with_reducible assumption | with_reducible exact Below.refl _ _ | with_reducible apply Below.drew | (with_reducible refine Below.alloc ?_ ?_ _; rotate_left; focus ((first | omega | (simp <;> omega)); done)))))))); (focus (repeat (first | with_reducible assumption | with_reducible exact Below.refl _ _ | with_reducible apply Below.drew | (with_reducible refine Below.alloc ?_ ?_ _; rotate_left; focus ((first | omega | (simp <;> omega)); done)))))))
    (first
      | (go_at_call 10; with_reducible refine (int_calls _ _).mono ?_; rintro e wn ⟨rfl, hbn⟩; (refine (have hn : Below w3.heap.size w3 wn := ?_; ?_); focus (refine below_then' ?_ hbn (Nat.le_refl _); (focus (repeat (first | with_reducible assumption | with_reducible exact Below.refl _ _ | with_reducible apply Below.drew | (with_reducible refine Below.alloc ?_ ?_ _; rotate_left; focus ((first | omega | (simp <;> omega)); done))))); done)); clear hbn)
      | (go_at_call 9; with_reducible refine (sym_calls _ _).mono ?_; rintro e wn ⟨rfl, hbn⟩; (refine (have hn : Below w3.heap.size w3 wn := ?_; ?_); focus (refine below_then' ?_ hbn (Nat.le_refl _); (focus (repeat (first | with_reducible assumption | with_reducible exact Below.refl _ _ | with_reducible apply Below.drew | (with_reducible refine Below.alloc ?_ ?_ _; rotate_left; focus ((first | omega | (simp <;> omega)); done))))); done)); clear hbn)
      | (go_at_call 8; with_reducible refine (compare_calls _ _ _ _ _ _ _).mono ?_; rintro e wn ⟨rfl, hbn⟩; (first | rw [E1.out] | rw [E2.out] | rw [E3.out]); (refine (have hn : Below w3.heap.size w3 wn := ?_; ?_); focus (refine below_then' ?_ hbn (Nat.le_refl _); (focus (repeat (first | with_reducible assumption | with_reducible exact Below.refl _ _ | with_reducible apply Below.drew | (with_reducible refine Below.alloc ?_ ?_ _; rotate_left; focus ((first | omega | (simp <;> omega)); done))))); done)); clear hbn))
  go_wp2_with fail
  go_ret
  refine ⟨?_, H3.out.trans (Below.mono (B := w3.heap.size) ?_ H3.out.size)⟩
  · rfl
  assumption
end Go.Proofs.YtogobiijmdgfdaaDoor.V
