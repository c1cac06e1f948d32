/- The walk of ValueTexts: whatever the two values, it returns true. -/
import Derived.Test.YtogobiijmdgfdaaDoorShown
import Derived.Test.YtogobiijmdgfdaaDoorBox
import Derived.Test.YtogobiijmdgfdaaDoorTextLaw
namespace Go.Proofs.YtogobiijmdgfdaaDoor.V
set_option linter.unusedVariables false
set_option linter.unusedSimpArgs false
open Go.RowKit

set_option maxRecDepth 100000 in
set_option maxHeartbeats 8000000 in
theorem texts_walk (s : Bool) (t : ByteArray) (n : Int) (s' : Bool) (t' : ByteArray) (n' : Int) (w : World) (ht : t.size ≤ 1048576) (ht' : t'.size ≤ 1048576) (h0 : -9223372036854775808 ≤ n) (h1 : n ≤ 9223372036854775807) (h0' : -9223372036854775808 ≤ n') (h1' : n' ≤ 9223372036854775807) (hw : TabW w) :
    Calls Tryd.prog 6 #[.agg #[.bool s, .string t, .int .i64 n], .agg #[.bool s', .string t', .int .i64 n']] w fun e w' => e = .returned (.bool true) ∧ Below w.heap.size w w' := by
  have HN := Lib.hid (And.intro (And.intro (show t.size ≤ 1099511627776 by omega) (show t'.size ≤ 1099511627776 by omega)) (And.intro (And.intro h0 h1) (And.intro h0' h1')))
  clear h0 h1 h0' h1' ht ht'
  have ES := Lib.hid (show decide ((⟨(textL s t.data.toList n).toArray⟩ : ByteArray) = ⟨(textL s' t'.data.toList n').toArray⟩) = same s t.toList n s' t'.toList n' by rw [same_of, ByteArray.toList_eq, ByteArray.toList_eq]; rfl)
  obtain ⟨TA, hTA⟩ : ∃ TA, (⟨(textL s t.data.toList n).toArray⟩ : ByteArray) = TA := ⟨_, rfl⟩
  obtain ⟨TB, hTB⟩ : ∃ TB, (⟨(textL s' t'.data.toList n').toArray⟩ : ByteArray) = TB := ⟨_, rfl⟩
  obtain ⟨SM, hSM⟩ : ∃ SM, same s t.toList n s' t'.toList n' = SM := ⟨_, rfl⟩
  have ES := Lib.hid (show ((TA.toList == TB.toList) == SM) = true by rw [toList_beq, ← hTA, ← hTB, ← hSM, ES.out]; simp)
  have ETA := Lib.hid hTA
  have ETB := Lib.hid hTB
  have ESM := Lib.hid hSM
  clear hTA hTB hSM
  have HB := Lib.hid (((Below.refl w.heap.size w).alloc (Nat.le_refl _) (.cells #[.bool s, .string t, .int .i64 n] 23)).alloc (by simp) (.cells #[.bool s', .string t', .int .i64 n'] 23))
  have b1 : Box ((w.alloc (.cells #[.bool s, .string t, .int .i64 n] 23)).alloc (.cells #[.bool s', .string t', .int .i64 n'] 23)) w.heap.size s t n := (Box.new _ _ _ _).alloc _
  have b2 : Box ((w.alloc (.cells #[.bool s, .string t, .int .i64 n] 23)).alloc (.cells #[.bool s', .string t', .int .i64 n'] 23)) (w.heap.size + 1) s' t' n' := by
    have := Box.new (w.alloc (.cells #[.bool s, .string t, .int .i64 n] 23)) s' t' n'
    simpa using this
  have HX := Lib.hid (And.intro b1 b2)
  have HW := Lib.hid (hw.below HB.out)
  clear b1 b2 hw
  go_enter Tryd.func6, Tryd.ntmps6
  go_wp2_with fail
  refine (shown_calls _ HW.out).mono ?_
  rintro e w3 ⟨rfl, hb⟩
  have H3 := Lib.hid (below_then HB.out hb HB.out.size)
  have HT3 := Lib.hid (HW.out.below hb)
  have hx1 := HX.out.1.below hb
  have hx2 := HX.out.2.below hb
  clear hb HX HB HW
  have A0 := Lib.hid hx1.c0
  have A1 := Lib.hid hx1.c1
  have A2 := Lib.hid hx1.c2
  have B0 := Lib.hid hx2.c0
  have B1 := Lib.hid hx2.c1
  have B2 := Lib.hid hx2.c2
  have hlt := hx2.lt
  clear hx1 hx2
  go_wp2_with fail
  go_region_held3 (fun W => (W.cell? ⟨w.heap.size, 0, none⟩ = some (.bool s) ∧ W.cell? ⟨w.heap.size, 1, none⟩ = some (.string t) ∧ W.cell? ⟨w.heap.size, 2, none⟩ = some (.int .i64 n) ∧ W.cell? ⟨w.heap.size + 1, 0, none⟩ = some (.bool s') ∧ W.cell? ⟨w.heap.size + 1, 1, none⟩ = some (.string t') ∧ W.cell? ⟨w.heap.size + 1, 2, none⟩ = some (.int .i64 n')) ∧ Below w3.heap.size w3 W)
    ((go_split_ands; refine ⟨⟨?_, ?_, ?_, ?_, ?_, ?_⟩, ?_⟩; (focus (first | with_reducible assumption | (refine cell_below (w := w3) ?_ A0.out; (focus (repeat (first | with_reducible assumption | with_reducible exact Below.refl _ _ | with_reducible apply Below.drew | (with_reducible refine Below.alloc ?_ ?_ _; rotate_left; focus ((first | omega | (simp <;> omega)); done)))))))); (focus (first | with_reducible assumption | (refine cell_below (w := w3) ?_ A1.out; (focus (repeat (first | with_reducible assumption | with_reducible exact Below.refl _ _ | with_reducible apply Below.drew | (with_reducible refine Below.alloc ?_ ?_ _; rotate_left; focus ((first | omega | (simp <;> omega)); done)))))))); (focus (first | with_reducible assumption | (refine cell_below (w := w3) ?_ A2.out; (focus (repeat (first | with_reducible assumption | with_reducible exact Below.refl _ _ | with_reducible apply Below.drew | (with_reducible refine Below.alloc ?_ ?_ _; rotate_left; focus ((first | omega | (simp <;> omega)); done)))))))); (focus (first | with_reducible assumption | (refine cell_below (w := w3) ?_ B0.out; (focus (repeat (first | with_reducible assumption | with_reducible exact Below.refl _ _ | with_reducible apply Below.drew | (with_reducible refine Below.alloc ?_ ?_ _; rotate_left; focus ((first | omega | (simp <;> omega)); done)))))))); (focus (first | with_reducible assumption | (refine cell_below (w := w3) ?_ B1.out; (focus (repeat (first | with_reducible assumption | with_reducible exact Below.refl _ _ | with_reducible apply Below.drew | (with_reducible refine Below.alloc ?_ ?_ _; rotate_left; focus ((first | omega | (simp <;> omega)); done)))))))); (focus (first | with_reducible assumption | (refine cell_below (w := w3) ?_ B2.out; (focus (repeat (first | with_reducible assumption | with_reducible exact Below.refl _ _ | with_reducible apply Below.drew | (with_reducible refine Below.alloc ?_ ?_ _; rotate_left; focus ((first | omega | (simp <;> omega)); done)))))))); (focus (repeat (first | with_reducible assumption | with_reducible exact Below.refl _ _ | with_reducible apply Below.drew | (with_reducible refine Below.alloc ?_ ?_ _; rotate_left; focus ((first | omega | (simp <;> omega)); done)))))))
    (first
      | (go_at_call 11; with_reducible refine (text_calls _ _ _ _ HN.out.1.1 HN.out.2.1.1 HN.out.2.1.2 ?_).mono ?_; (focus (refine TabW.below HT3.out ?_; (focus (repeat (first | with_reducible assumption | with_reducible exact Below.refl _ _ | with_reducible apply Below.drew | (with_reducible refine Below.alloc ?_ ?_ _; rotate_left; focus ((first | omega | (simp <;> omega)); done))))))); rintro e wn ⟨rfl, hbn⟩; rw [ETA.out]; (refine (have hn : Below w3.heap.size w3 wn := ?_; ?_); focus (refine below_then' ?_ hbn (Nat.le_refl _); (focus (repeat (first | with_reducible assumption | with_reducible exact Below.refl _ _ | with_reducible apply Below.drew | (with_reducible refine Below.alloc ?_ ?_ _; rotate_left; focus ((first | omega | (simp <;> omega)); done))))); done)); clear hbn)
      | (go_at_call 11; with_reducible refine (text_calls _ _ _ _ HN.out.1.2 HN.out.2.2.1 HN.out.2.2.2 ?_).mono ?_; (focus (refine TabW.below HT3.out ?_; (focus (repeat (first | with_reducible assumption | with_reducible exact Below.refl _ _ | with_reducible apply Below.drew | (with_reducible refine Below.alloc ?_ ?_ _; rotate_left; focus ((first | omega | (simp <;> omega)); done))))))); rintro e wn ⟨rfl, hbn⟩; rw [ETB.out]; (refine (have hn : Below w3.heap.size w3 wn := ?_; ?_); focus (refine below_then' ?_ hbn (Nat.le_refl _); (focus (repeat (first | with_reducible assumption | with_reducible exact Below.refl _ _ | with_reducible apply Below.drew | (with_reducible refine Below.alloc ?_ ?_ _; rotate_left; focus ((first | omega | (simp <;> omega)); done))))); done)); clear hbn)
      | (go_at_call 13; with_reducible refine (same_calls _ _ _ _ _ _ _).mono ?_; rintro e wn ⟨rfl, hbn⟩; rw [ESM.out]; (refine (have hn : Below w3.heap.size w3 wn := ?_; ?_); focus (refine below_then' ?_ hbn (Nat.le_refl _); (focus (repeat (first | with_reducible assumption | with_reducible exact Below.refl _ _ | with_reducible apply Below.drew | (with_reducible refine Below.alloc ?_ ?_ _; rotate_left; focus ((first | omega | (simp <;> omega)); done))))); done)); clear hbn))
  go_wp2_with fail
  go_ret
  refine ⟨?_, H3.out.trans (Below.mono (B := w3.heap.size) ?_ H3.out.size)⟩
  · exact congrArg (fun b => Ending.returned (Value.bool b)) ES.out
  assumption
end Go.Proofs.YtogobiijmdgfdaaDoor.V
