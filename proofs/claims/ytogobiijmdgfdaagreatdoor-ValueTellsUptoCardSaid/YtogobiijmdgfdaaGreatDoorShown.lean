/- The examples at the head of the statements of the values' layer: they hold. -/
import Derived.Test.YtogobiijmdgfdaaGreatDoorText
import Derived.Test.YtogobiijmdgfdaaGreatDoorCmp
namespace Go.Proofs.YtogobiijmdgfdaaGreatDoor.V
set_option linter.unusedVariables false
open Go.RowKit
set_option linter.unusedSimpArgs false

theorem ex_cmp1 : cmpV false (⟨#[]⟩ : ByteArray).toList 3 true (⟨#[97]⟩ : ByteArray).toList 0 = -1 := rfl
theorem ex_cmp2 : cmpV true (⟨#[97]⟩ : ByteArray).toList 0 true (⟨#[98]⟩ : ByteArray).toList 0 = -1 := by
  rw [ByteArray.toList_eq, ByteArray.toList_eq]
  decide
theorem ex_text1 : (⟨(textL true (⟨#[65]⟩ : ByteArray).data.toList 0).toArray⟩ : ByteArray) = ⟨#[39, 65, 39]⟩ := by decide +kernel
theorem ex_text2 : (⟨(textL false (⟨#[]⟩ : ByteArray).data.toList (-3)).toArray⟩ : ByteArray) = ⟨#[45, 51]⟩ := by
  have : Lib.itoa (-3) = [45, 51] := by
    unfold Lib.itoa
    rw [if_pos (by decide), Lib.decDigits, dif_pos (by decide)]
    rfl
  unfold textL
  simp only [this]

set_option maxRecDepth 100000 in
set_option maxHeartbeats 4000000 in
theorem shown_calls (w : World) (hw : TabW w) : Calls Tryz.prog 5 #[] w fun e w' => e = .returned (.bool true) ∧ Below w.heap.size w w' := by
  have HW := Lib.hid hw
  clear hw
  go_enter Tryz.func5, Tryz.ntmps5
  go_wp2_with fail
  refine (sym_calls _ _).mono ?_
  rintro e w1 ⟨rfl, hb1⟩
  go_wp2_with fail
  refine (sym_calls _ _).mono ?_
  rintro e w2 ⟨rfl, hb2⟩
  have k1 := (hb2.block w1.heap.size (by simp)).trans (heap_alloc_new w1 (.cells #[.bool true, .string ⟨#[97]⟩, .int .i64 0] 23))
  have k2 := old_block (.cells #[.bool true, .string ⟨#[98]⟩, .int .i64 0] 23) k1
  have k3 := heap_alloc_new w2 (.cells #[.bool true, .string ⟨#[98]⟩, .int .i64 0] 23)
  have h3 : Below w.heap.size w (w2.alloc (.cells #[.bool true, .string ⟨#[98]⟩, .int .i64 0] 23)) := by
    have h1 : Below w.heap.size w (w1.alloc (.cells #[.bool true, .string ⟨#[97]⟩, .int .i64 0] 23)) := hb1.alloc hb1.size _
    have h2 := below_then h1 hb2 (by have := hb1.size; simp; omega)
    exact h2.alloc h2.size _
  have H3 := Lib.hid h3
  clear hb1 hb2 k1 h3
  have HT3 := HW.out.below H3.out
  have HK2 := Lib.hid k2
  have HK3 := Lib.hid k3
  clear k2 k3
  go_wp2_with fail
  obtain ⟨w3, hw3⟩ : ∃ w3, w2.alloc (.cells #[.bool true, .string ⟨#[98]⟩, .int .i64 0] 23) = w3 := ⟨_, rfl⟩
  have k2 := HK2.out
  have k3 := HK3.out
  rw [hw3] at k2 k3 H3 HT3 ⊢
  have A0 := Lib.hid (show w3.cell? ⟨w1.heap.size, 0, none⟩ = some (.bool true) from cell_of_row _ _ 0 _ _ _ k2)
  have A1 := Lib.hid (show w3.cell? ⟨w1.heap.size, 1, none⟩ = some (.string ⟨#[97]⟩) from cell_of_row _ _ 1 _ _ _ k2)
  have A2 := Lib.hid (show w3.cell? ⟨w1.heap.size, 2, none⟩ = some (.int .i64 0) from cell_of_row _ _ 2 _ _ _ k2)
  have B0 := Lib.hid (show w3.cell? ⟨w2.heap.size, 0, none⟩ = some (.bool true) from cell_of_row _ _ 0 _ _ _ k3)
  have B1 := Lib.hid (show w3.cell? ⟨w2.heap.size, 1, none⟩ = some (.string ⟨#[98]⟩) from cell_of_row _ _ 1 _ _ _ k3)
  have B2 := Lib.hid (show w3.cell? ⟨w2.heap.size, 2, none⟩ = some (.int .i64 0) from cell_of_row _ _ 2 _ _ _ k3)
  have hlt := (Array.getElem?_eq_some_iff.1 k3).1
  have HT3 := Lib.hid HT3
  clear k2 k3 hw3
  go_region_held3 (fun W => (W.cell? ⟨w1.heap.size, 0, none⟩ = some (.bool true) ∧ W.cell? ⟨w1.heap.size, 1, none⟩ = some (.string ⟨#[97]⟩) ∧ W.cell? ⟨w1.heap.size, 2, none⟩ = some (.int .i64 0) ∧ W.cell? ⟨w2.heap.size, 0, none⟩ = some (.bool true) ∧ W.cell? ⟨w2.heap.size, 1, none⟩ = some (.string ⟨#[98]⟩) ∧ W.cell? ⟨w2.heap.size, 2, none⟩ = some (.int .i64 0)) ∧ Below w3.heap.size w3 W)
    ((go_split_ands; refine ⟨⟨?_, ?_, ?_, ?_, ?_, ?_⟩, ?_⟩; (focus (first | with_reducible assumption | (refine cell_below (w := w3) ?_ A0.out; (repeat (first | with_reducible assumption | with_reducible exact Below.refl _ _ | with_reducible apply Below.drew | (with_reducible refine Below.alloc ?_ ?_ _; rotate_left; focus ((first | omega | (simp <;> omega)); done))))))); (focus (first | with_reducible assumption | (refine cell_below (w := w3) ?_ A1.out; (repeat (first | with_reducible assumption | with_reducible exact Below.refl _ _ | with_reducible apply Below.drew | (with_reducible refine Below.alloc ?_ ?_ _; rotate_left; focus ((first | omega | (simp <;> omega)); done))))))); (focus (first | with_reducible assumption | (refine cell_below (w := w3) ?_ A2.out; (repeat (first | with_reducible assumption | with_reducible exact Below.refl _ _ | with_reducible apply Below.drew | (with_reducible refine Below.alloc ?_ ?_ _; rotate_left; focus ((first | omega | (simp <;> omega)); done))))))); (focus (first | with_reducible assumption | (refine cell_below (w := w3) ?_ B0.out; (repeat (first | with_reducible assumption | with_reducible exact Below.refl _ _ | with_reducible apply Below.drew | (with_reducible refine Below.alloc ?_ ?_ _; rotate_left; focus ((first | omega | (simp <;> omega)); done))))))); (focus (first | with_reducible assumption | (refine cell_below (w := w3) ?_ B1.out; (repeat (first | with_reducible assumption | with_reducible exact Below.refl _ _ | with_reducible apply Below.drew | (with_reducible refine Below.alloc ?_ ?_ _; rotate_left; focus ((first | omega | (simp <;> omega)); done))))))); (focus (first | with_reducible assumption | (refine cell_below (w := w3) ?_ B2.out; (repeat (first | with_reducible assumption | with_reducible exact Below.refl _ _ | with_reducible apply Below.drew | (with_reducible refine Below.alloc ?_ ?_ _; rotate_left; focus ((first | omega | (simp <;> omega)); done))))))); (focus (repeat (first | with_reducible assumption | with_reducible exact Below.refl _ _ | with_reducible apply Below.drew | (with_reducible refine Below.alloc ?_ ?_ _; rotate_left; focus ((first | omega | (simp <;> omega)); done)))))))
    (first
      | (go_at_call 17; refine (int_calls _ _).mono ?_; rintro e wn ⟨rfl, hbn⟩; (refine (have hn : Below w3.heap.size w3 wn := ?_; ?_); focus (refine below_then' ?_ hbn (Nat.le_refl _); (focus (repeat (first | with_reducible assumption | with_reducible exact Below.refl _ _ | with_reducible apply Below.drew | (with_reducible refine Below.alloc ?_ ?_ _; rotate_left; focus ((first | omega | (simp <;> omega)); done))))); done)); clear hbn)
      | (go_at_call 16; refine (sym_calls _ _).mono ?_; rintro e wn ⟨rfl, hbn⟩; (refine (have hn : Below w3.heap.size w3 wn := ?_; ?_); focus (refine below_then' ?_ hbn (Nat.le_refl _); (focus (repeat (first | with_reducible assumption | with_reducible exact Below.refl _ _ | with_reducible apply Below.drew | (with_reducible refine Below.alloc ?_ ?_ _; rotate_left; focus ((first | omega | (simp <;> omega)); done))))); done)); clear hbn)
      | (go_at_call 8; refine (compare_calls _ _ _ _ _ _ _).mono ?_; rintro e wn ⟨rfl, hbn⟩; (first | rw [ex_cmp1] | rw [ex_cmp2]); (refine (have hn : Below w3.heap.size w3 wn := ?_; ?_); focus (refine below_then' ?_ hbn (Nat.le_refl _); (focus (repeat (first | with_reducible assumption | with_reducible exact Below.refl _ _ | with_reducible apply Below.drew | (with_reducible refine Below.alloc ?_ ?_ _; rotate_left; focus ((first | omega | (simp <;> omega)); done))))); done)); clear hbn)
      | (go_at_call 12; refine (text_calls _ _ _ _ ?_ ?_ ?_ ?_).mono ?_; decide; decide; decide; (focus (refine TabW.below HT3.out ?_; (repeat (first | with_reducible assumption | with_reducible exact Below.refl _ _ | with_reducible apply Below.drew | (with_reducible refine Below.alloc ?_ ?_ _; rotate_left; focus ((first | omega | (simp <;> omega)); done)))))); rintro e wn ⟨rfl, hbn⟩; (first | rw [ex_text1] | rw [ex_text2]); (refine (have hn : Below w3.heap.size w3 wn := ?_; ?_); focus (refine below_then' ?_ hbn (Nat.le_refl _); (focus (repeat (first | with_reducible assumption | with_reducible exact Below.refl _ _ | with_reducible apply Below.drew | (with_reducible refine Below.alloc ?_ ?_ _; rotate_left; focus ((first | omega | (simp <;> omega)); done))))); done)); clear hbn))
  go_wp2_with fail
  go_ret
  refine ⟨rfl, H3.out.trans (Below.mono (B := w3.heap.size) ?_ H3.out.size)⟩
  assumption
end Go.Proofs.YtogobiijmdgfdaaGreatDoor.V
