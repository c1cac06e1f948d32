/- The walk of ValueTells: whatever the two values and the operator, it returns true. -/
import Derived.Test.YtogobiijmdgfdaaGreatDoorShown
import Derived.Test.YtogobiijmdgfdaaGreatDoorBox
import Derived.Test.YtogobiijmdgfdaaGreatDoorRefT
namespace Go.Proofs.YtogobiijmdgfdaaGreatDoor.V
set_option linter.unusedVariables false
set_option linter.unusedSimpArgs false
open Go.RowKit

set_option maxRecDepth 100000 in
set_option maxHeartbeats 16000000 in
theorem tells_walk (s : Bool) (t : ByteArray) (n : Int) (s' : Bool) (t' : ByteArray) (n' : Int) (o : ByteArray) (w : World) (ht : t.size ≤ 1048576) (ht' : t'.size ≤ 1048576) (ho : o.size ≤ 1048576) (h0 : -9223372036854775808 ≤ n) (h1 : n ≤ 9223372036854775807) (h0' : -9223372036854775808 ≤ n') (h1' : n' ≤ 9223372036854775807) (hw : TabW w) :
    Calls Tryz.prog 4 #[.agg #[.bool s, .string t, .int .i64 n], .agg #[.bool s', .string t', .int .i64 n'], .string o] w fun e w' => e = .returned (.bool true) ∧ Below w.heap.size w w' := by
  obtain ⟨p, q, hHO, hRO⟩ := holds_both o s t n s' t' n' ht ht'
  have HHO := Lib.hid hHO
  have HRO := Lib.hid hRO
  clear hHO hRO
  have HN := Lib.hid (And.intro (And.intro (show t.size ≤ 1099511627776 by omega) (show t.size ≤ maxLen by unfold maxLen; omega)) (And.intro h0 h1))
  have HT := Lib.hid (And.intro ht ht')
  clear h0 h1 h0' h1' ht ht'
  obtain ⟨TA, hTA⟩ : ∃ TA, (⟨(textL s t.data.toList n).toArray⟩ : ByteArray) = TA := ⟨_, rfl⟩
  obtain ⟨X, hX⟩ : ∃ X, cmpV s t.toList n s' t'.toList n' = X := ⟨_, rfl⟩
  obtain ⟨SM, hSM⟩ : ∃ SM, same s t.toList n s' t'.toList n' = SM := ⟨_, rfl⟩
  obtain ⟨PL, hPL⟩ : ∃ PL, plainL t.data.toList = PL := ⟨_, rfl⟩
  have ETA := Lib.hid hTA
  have EX := Lib.hid hX
  have ESM := Lib.hid hSM
  have EPL := Lib.hid hPL
  clear hTA hX hSM hPL
  have HB := Lib.hid (((Below.refl w.heap.size w).alloc (Nat.le_refl _) (.cells #[.bool s, .string t, .int .i64 n] 23)).alloc (by simp) (.cells #[.bool s', .string t', .int .i64 n'] 23))
  have b1 : Box ((w.alloc (.cells #[.bool s, .string t, .int .i64 n] 23)).alloc (.cells #[.bool s', .string t', .int .i64 n'] 23)) w.heap.size s t n := (Box.new _ _ _ _).alloc _
  have b2 : Box ((w.alloc (.cells #[.bool s, .string t, .int .i64 n] 23)).alloc (.cells #[.bool s', .string t', .int .i64 n'] 23)) (w.heap.size + 1) s' t' n' := by
    have := Box.new (w.alloc (.cells #[.bool s, .string t, .int .i64 n] 23)) s' t' n'
    simpa using this
  have HX := Lib.hid (And.intro b1 b2)
  have HW := Lib.hid (hw.below HB.out)
  clear b1 b2 hw
  go_enter Tryz.func4, Tryz.ntmps4
  go_wp2_with fail
  refine (shown_calls _ HW.out).mono ?_
  rintro e w1 ⟨rfl, hb⟩
  have H1 := Lib.hid (below_then HB.out hb HB.out.size)
  have HT1 := Lib.hid (HW.out.below hb)
  have hx1 := HX.out.1.below hb
  have hx2 := HX.out.2.below hb
  clear hb HX HB HW
  obtain ⟨_, a0, a1, a2⟩ := id hx1
  obtain ⟨_, b0, b1, b2⟩ := id hx2
  have HX1 := Lib.hid (And.intro hx1 hx2)
  clear hx1 hx2
  go_wp2_with fail
  refine (HHO.out _).mono ?_
  rintro e w2 ⟨rfl, hb⟩
  have H2 := Lib.hid (below_then H1.out hb H1.out.size)
  have HT2 := Lib.hid (HT1.out.below hb)
  have hx1 := HX1.out.1.below hb
  have hx2 := HX1.out.2.below hb
  clear hb HX1 H1 HT1 a0 a1 a2 b0 b1 b2
  obtain ⟨_, a0, a1, a2⟩ := id hx1
  obtain ⟨_, b0, b1, b2⟩ := id hx2
  have HX2 := Lib.hid (And.intro hx1 hx2)
  clear hx1 hx2
  go_wp2_with fail
  refine (HRO.out _).mono ?_
  rintro e w3 ⟨rfl, hb⟩
  have H3 := Lib.hid (below_then H2.out hb H2.out.size)
  have HT3 := Lib.hid (HT2.out.below hb)
  have hx1 := HX2.out.1.below hb
  have hx2 := HX2.out.2.below hb
  clear hb HX2 H2 HT2 HHO HRO a0 a1 a2 b0 b1 b2
  have A0 := Lib.hid hx1.c0
  have A1 := Lib.hid hx1.c1
  have A2 := Lib.hid hx1.c2
  have B0 := Lib.hid hx2.c0
  have B1 := Lib.hid hx2.c1
  have B2 := Lib.hid hx2.c2
  have hlt := hx2.lt
  clear hx1 hx2
  go_wp2_with fail
  go_region_held3 (fun W => (W.cell? ⟨w.heap.size, 0, none⟩ = some (.bool s) ∧ W.cell? ⟨w.heap.size, 1, none⟩ = some (.string t) ∧ W.cell? ⟨w.heap.size, 2, none⟩ = some (.int .i64 n) ∧ W.cell? ⟨w.heap.size + 1, 0, none⟩ = some (.bool s') ∧ W.cell? ⟨w.heap.size + 1, 1, none⟩ = some (.string t') ∧ W.cell? ⟨w.heap.size + 1, 2, none⟩ = some (.int .i64 n')) ∧ Below w3.heap.size w3 W)
    ((go_split_ands; refine ⟨⟨?_, ?_, ?_, ?_, ?_, ?_⟩, ?_⟩; (focus (first | with_reducible assumption | (refine cell_below (w := w3) ?_ A0.out; (focus (repeat (first | with_reducible assumption | with_reducible exact Below.refl _ _ | with_reducible apply Below.drew | (with_reducible refine Below.alloc ?_ ?_ _; rotate_left; focus ((first | omega | (simp <;> omega)); done)))))))); (focus (first | with_reducible assumption | (refine cell_below (w := w3) ?_ A1.out; (focus (repeat (first | with_reducible assumption | with_reducible exact Below.refl _ _ | with_reducible apply Below.drew | (with_reducible refine Below.alloc ?_ ?_ _; rotate_left; focus ((first | omega | (simp <;> omega)); done)))))))); (focus (first | with_reducible assumption | (refine cell_below (w := w3) ?_ A2.out; (focus (repeat (first | with_reducible assumption | with_reducible exact Below.refl _ _ | with_reducible apply Below.drew | (with_reducible refine Below.alloc ?_ ?_ _; rotate_left; focus ((first | omega | (simp <;> omega)); done)))))))); (focus (first | with_reducible assumption | (refine cell_below (w := w3) ?_ B0.out; (focus (repeat (first | with_reducible assumption | with_reducible exact Below.refl _ _ | with_reducible apply Below.drew | (with_reducible refine Below.alloc ?_ ?_ _; rotate_left; focus ((first | omega | (simp <;> omega)); done)))))))); (focus (first | with_reducible assumption | (refine cell_below (w := w3) ?_ B1.out; (focus (repeat (first | with_reducible assumption | with_reducible exact Below.refl _ _ | with_reducible apply Below.drew | (with_reducible refine Below.alloc ?_ ?_ _; rotate_left; focus ((first | omega | (simp <;> omega)); done)))))))); (focus (first | with_reducible assumption | (refine cell_below (w := w3) ?_ B2.out; (focus (repeat (first | with_reducible assumption | with_reducible exact Below.refl _ _ | with_reducible apply Below.drew | (with_reducible refine Below.alloc ?_ ?_ _; rotate_left; focus ((first | omega | (simp <;> omega)); done)))))))); (focus (repeat (first | with_reducible assumption | with_reducible exact Below.refl _ _ | with_reducible apply Below.drew | (with_reducible refine Below.alloc ?_ ?_ _; rotate_left; focus ((first | omega | (simp <;> omega)); done)))))))
    (first
      | (go_at_call 8; with_reducible refine (compare_calls _ _ _ _ _ _ _).mono ?_; rintro e wn ⟨rfl, hbn⟩; rw [EX.out]; (refine (have hn : Below w3.heap.size w3 wn := ?_; ?_); focus (refine below_then' ?_ hbn (Nat.le_refl _); (focus (repeat (first | with_reducible assumption | with_reducible exact Below.refl _ _ | with_reducible apply Below.drew | (with_reducible refine Below.alloc ?_ ?_ _; rotate_left; focus ((first | omega | (simp <;> omega)); done))))); done)); clear hbn)
      | (go_at_call 9; with_reducible refine (refCompare_calls _ _ _ _ _ _ _ HT.out.1 HT.out.2).mono ?_; rintro e wn ⟨rfl, hbn⟩; rw [EX.out]; (refine (have hn : Below w3.heap.size w3 wn := ?_; ?_); focus (refine below_then' ?_ hbn (Nat.le_refl _); (focus (repeat (first | with_reducible assumption | with_reducible exact Below.refl _ _ | with_reducible apply Below.drew | (with_reducible refine Below.alloc ?_ ?_ _; rotate_left; focus ((first | omega | (simp <;> omega)); done))))); done)); clear hbn)
      | (go_at_call 10; with_reducible refine (same_calls _ _ _ _ _ _ _).mono ?_; rintro e wn ⟨rfl, hbn⟩; rw [ESM.out]; (refine (have hn : Below w3.heap.size w3 wn := ?_; ?_); focus (refine below_then' ?_ hbn (Nat.le_refl _); (focus (repeat (first | with_reducible assumption | with_reducible exact Below.refl _ _ | with_reducible apply Below.drew | (with_reducible refine Below.alloc ?_ ?_ _; rotate_left; focus ((first | omega | (simp <;> omega)); done))))); done)); clear hbn)
      | (go_at_call 11; with_reducible refine (refSame_calls _ _ _ _ _ _ _ HT.out.1 HT.out.2).mono ?_; rintro e wn ⟨rfl, hbn⟩; rw [ESM.out]; (refine (have hn : Below w3.heap.size w3 wn := ?_; ?_); focus (refine below_then' ?_ hbn (Nat.le_refl _); (focus (repeat (first | with_reducible assumption | with_reducible exact Below.refl _ _ | with_reducible apply Below.drew | (with_reducible refine Below.alloc ?_ ?_ _; rotate_left; focus ((first | omega | (simp <;> omega)); done))))); done)); clear hbn)
      | (go_at_call 12; with_reducible refine (text_calls _ _ _ _ HN.out.1.1 HN.out.2.1 HN.out.2.2 ?_).mono ?_; (focus (refine TabW.below HT3.out ?_; (focus (repeat (first | with_reducible assumption | with_reducible exact Below.refl _ _ | with_reducible apply Below.drew | (with_reducible refine Below.alloc ?_ ?_ _; rotate_left; focus ((first | omega | (simp <;> omega)); done))))))); rintro e wn ⟨rfl, hbn⟩; rw [ETA.out]; (refine (have hn : Below w3.heap.size w3 wn := ?_; ?_); focus (refine below_then' ?_ hbn (Nat.le_refl _); (focus (repeat (first | with_reducible assumption | with_reducible exact Below.refl _ _ | with_reducible apply Below.drew | (with_reducible refine Below.alloc ?_ ?_ _; rotate_left; focus ((first | omega | (simp <;> omega)); done))))); done)); clear hbn)
      | (go_at_call 13; with_reducible refine (refText_calls _ _ _ _ HT.out.1 HN.out.2.1 HN.out.2.2).mono ?_; rintro e wn ⟨rfl, hbn⟩; rw [ETA.out]; (refine (have hn : Below w3.heap.size w3 wn := ?_; ?_); focus (refine below_then' ?_ hbn (Nat.le_refl _); (focus (repeat (first | with_reducible assumption | with_reducible exact Below.refl _ _ | with_reducible apply Below.drew | (with_reducible refine Below.alloc ?_ ?_ _; rotate_left; focus ((first | omega | (simp <;> omega)); done))))); done)); clear hbn)
      | (go_at_call 14; with_reducible refine (plain_calls _ _ HN.out.1.2).mono ?_; rintro e wn ⟨rfl, hbn⟩; rw [EPL.out]; (refine (have hn : Below w3.heap.size w3 wn := ?_; ?_); focus (refine below_then' ?_ hbn (Nat.le_refl _); (focus (repeat (first | with_reducible assumption | with_reducible exact Below.refl _ _ | with_reducible apply Below.drew | (with_reducible refine Below.alloc ?_ ?_ _; rotate_left; focus ((first | omega | (simp <;> omega)); done))))); done)); clear hbn)
      | (go_at_call 15; with_reducible refine (refPlain_calls _ _ HT.out.1).mono ?_; rintro e wn ⟨rfl, hbn⟩; rw [EPL.out]; (refine (have hn : Below w3.heap.size w3 wn := ?_; ?_); focus (refine below_then' ?_ hbn (Nat.le_refl _); (focus (repeat (first | with_reducible assumption | with_reducible exact Below.refl _ _ | with_reducible apply Below.drew | (with_reducible refine Below.alloc ?_ ?_ _; rotate_left; focus ((first | omega | (simp <;> omega)); done))))); done)); clear hbn))
  go_wp2_with fail
  go_ret
  refine ⟨?_, H3.out.trans (Below.mono (B := w3.heap.size) ?_ H3.out.size)⟩
  · rfl
  assumption
end Go.Proofs.YtogobiijmdgfdaaGreatDoor.V
