/- value.Text: a number's figures, a plain name, or the name in marks. -/
import Derived.Test.YtdfjhhhbkgelaaaGreatDoorNew
import Derived.Test.YtdfjhhhbkgelaaaGreatDoorPlain
import Derived.Test.YtdfjhhhbkgelaaaGreatDoorShelf
import Derived.WalkSmall
import Derived.Deep.RegionHeld3
namespace Go.Proofs.YtdfjhhhbkgelaaaGreatDoor.V
set_option linter.unusedVariables false
open Go.RowKit Go.Sort
set_option linter.unusedSimpArgs false

/-- The library's table of powers of ten, as it lies from the start. -/
def TabW (w : World) : Prop := 0 < w.heap.size ∧ Lib.TabIs Tryz.prog w "internal/strconv.uint64pow10" .u64 Lib.pow10Tab
theorem tab_named : Tryz.prog.globalNamed "internal/strconv.uint64pow10" = some 0 := by kernel_rfl
theorem TabW.below {w w' : World} (h : TabW w) (hb : Below w.heap.size w w') : TabW w' := ⟨Nat.lt_of_lt_of_le h.1 hb.size, var?_below hb tab_named h.1 h.2⟩
theorem below_grow {B : Nat} {W w : World} (h : Below B W w) (hB : B ≤ w.heap.size) (q : Nat) (os : Array Obj) : Below B W (grow (w.drewN q) os) :=
  h.trans ⟨rfl, rfl, rfl, by simp [grow, World.drewN], fun k hk => by
    show (w.heap ++ os)[k]? = w.heap[k]?
    exact Array.getElem?_append_left (by omega)⟩
theorem marks_eq (l : List UInt8) : ((⟨#[39]⟩ : ByteArray) ++ ⟨l.toArray⟩) ++ ⟨#[39]⟩ = ⟨(39 :: l ++ [39]).toArray⟩ := by
  apply ByteArray.ext
  simp [ByteArray.data_append]
theorem six_new (w : World) : Six (w.alloc (.cells pairs 9)) w.heap.size := fun i u hu => (cell_of_row _ _ i _ _ _ (heap_alloc_new w _)).trans hu
theorem Six.drew {w : World} {g : Nat} (h : Six w g) : Six w.drew g := h
theorem Fresh.drew {B r g c : Nat} {w : World} (h : Fresh B r g c w) : Fresh B r g c w.drew := h
/-- A value's text. -/
def textL (s : Bool) (t : List UInt8) (n : Int) : List UInt8 := match s with
  | false => Lib.itoa n
  | true => if plainL t = true ∧ t.length ≤ 32 then t else 39 :: escL t ++ [39]
theorem of_bytes (s : ByteArray) : (⟨s.data.toList.toArray⟩ : ByteArray) = s := by
  cases s
  simp

set_option maxRecDepth 100000 in
set_option maxHeartbeats 2000000 in
theorem text_calls (s : Bool) (t : ByteArray) (n : Int) (w : World) (ht : t.size ≤ 1099511627776) (h0 : -9223372036854775808 ≤ n) (h1 : n ≤ 9223372036854775807) (hw : TabW w) :
    Calls Tryz.prog 48 #[.agg #[.bool s, .string t, .int .i64 n]] w fun e w' => e = .returned (.string ⟨(textL s t.data.toList n).toArray⟩) ∧ Below w.heap.size w w' := by
  have HB := Lib.hid ((Below.refl w.heap.size w).alloc (Nat.le_refl _) (.cells #[.bool s, .string t, .int .i64 n] 59))
  have HW := Lib.hid (hw.below HB.out)
  have H01 := Lib.hid (And.intro h0 h1)
  have htl : t.data.toList.length = t.size := by simp
  clear hw h0 h1
  cases s with
  | false =>
    go_enter Tryz.func48, Tryz.ntmps48
    go_wp2_with (go_at_call 50; refine (Tryz.strconv_FormatInt_10 n H01.out.1 H01.out.2 _ HW.out.2).mono ?_; rintro e w' ⟨rfl, q, os, rfl⟩)
    go_ret
    exact ⟨rfl, below_grow HB.out HB.out.size _ _⟩
  | true =>
    by_cases hp : plainL t.data.toList = true
    · by_cases hl : t.size ≤ 32
      · have HE := Lib.hid (show textL true t.data.toList n = t.data.toList from if_pos ⟨hp, by omega⟩)
        have HP := Lib.hid hp
        have hld : decide ((t.size : Int) ≤ 32) = true := decide_eq_true (by omega)
        clear hp htl
        go_enter Tryz.func48, Tryz.ntmps48
        go_wp2_with (go_at_call 47; refine (plain_calls t _ (by unfold maxLen; omega)).mono ?_; rw [HP.out]; rintro e w' ⟨rfl, hb⟩; have d1 := cell_below hb (show (w.alloc (.cells #[.bool true, .string t, .int .i64 n] 59)).cell? ⟨w.heap.size, 1, none⟩ = some (.string t) from by simp); have HB2 := Lib.hid hb; clear hb)
        go_ret
        exact ⟨by rw [HE.out, of_bytes]; rfl, HB.out.trans (HB2.out.mono HB.out.size)⟩
      · have HE := Lib.hid (show textL true t.data.toList n = 39 :: escL t.data.toList ++ [39] from if_neg (fun h => hl (by omega)))
        have HP := Lib.hid hp
        have hld : decide ((t.size : Int) ≤ 32) = false := decide_eq_false (by omega)
        obtain ⟨E, hE⟩ : ∃ E : ByteArray, E = ⟨(escL t.data.toList).toArray⟩ := ⟨_, rfl⟩
        have hEs : E.size ≤ 2199023255552 := by
          have h1 := escL_length t.data.toList
          have h2 := cntS_le t.data.toList
          have h3 : E.size = (escL t.data.toList).length := by rw [hE]; exact List.size_toArray
          omega
        have hadd1 : ∀ w, (Op.stringOp .add ⟨#[39]⟩ E).run Tryz.prog w = .ok (.string (⟨#[39]⟩ ++ E)) w := fun w => run_string_add_sum w _ _ (by have : (⟨#[39]⟩ : ByteArray).size = 1 := rfl; omega)
        have hadd2 : ∀ w, (Op.stringOp .add (⟨#[39]⟩ ++ E) ⟨#[39]⟩).run Tryz.prog w = .ok (.string ((⟨#[39]⟩ ++ E) ++ ⟨#[39]⟩)) w := fun w => run_string_add_sum w _ _ (by rw [ByteArray.size_append]; have : (⟨#[39]⟩ : ByteArray).size = 1 := rfl; omega)
        have HEE := Lib.hid hE
        clear hp htl hE hEs
        go_enter Tryz.func48, Tryz.ntmps48
        go_wp2_with (go_at_call 47; refine (plain_calls t _ (by unfold maxLen; omega)).mono ?_; rw [HP.out]; rintro e w2 ⟨rfl, hb⟩; have d1 := cell_below hb (show (w.alloc (.cells #[.bool true, .string t, .int .i64 n] 59)).cell? ⟨w.heap.size, 1, none⟩ = some (.string t) from by simp); have HB2 := Lib.hid (HB.out.trans (hb.mono HB.out.size)); have D1 := Lib.hid d1; clear hb)
        go_region_held3 (fun W => W.cell? ⟨w.heap.size, 1, none⟩ = some (.string t) ∧ Below w2.heap.size w2 W)
          ((go_split_ands; refine ⟨?_, ?_⟩; (focus (first | with_reducible assumption | (refine cell_below (w := w2) ?_ D1.out; (repeat (first | with_reducible assumption | with_reducible exact Below.refl _ _ | with_reducible apply Below.drew | (with_reducible refine Below.alloc ?_ ?_ _; rotate_left; focus ((first | omega | (simp <;> omega)); done))))))); (focus (repeat (first | with_reducible assumption | with_reducible exact Below.refl _ _ | with_reducible apply Below.drew | (with_reducible refine Below.alloc ?_ ?_ _; rotate_left; focus ((first | omega | (simp <;> omega)); done)))))))
          (first
            | (go_at_call 60; ((with_reducible refine (new_calls _ _ _ ?_).mono ?_)); (focus (first | exact six_new w2 | exact (six_new w2).drew)); rintro e w3 ⟨r, g, c, rfl, hF, hb3⟩; have HF := Lib.hid hF; have hsz3 := hb3.size; have HSZ3 := Lib.hid hsz3; (refine (have hb23 : Below w2.heap.size w2 w3 := ?_; ?_); focus (refine below_then ?_ hb3 ?_; (focus (repeat (first | with_reducible assumption | with_reducible exact Below.refl _ _ | with_reducible apply Below.drew | (with_reducible refine Below.alloc ?_ ?_ _; rotate_left; focus ((first | omega | (simp <;> omega)); done))))); (simp; done))); have HB23 := Lib.hid hb23; clear hF hb3 hsz3)
            | (go_at_call 61; refine (replacer_calls _ _ _ _ t _ HF.out HSZ3.out ht).mono ?_; rintro e w4 ⟨rfl, hb4⟩; rw [← HEE.out]; (refine (have hb24 : Below w2.heap.size w2 w4 := ?_; ?_); focus (refine HB23.out.trans (hb4.mono ?_); (simp; done))); have HB24 := Lib.hid hb24; clear hb4))
        go_wp2_with fail
        go_ret
        exact ⟨by rw [HE.out, ← marks_eq, ← HEE.out]; rfl, HB2.out.trans (by have := HB24.out; exact this.mono HB2.out.size)⟩
    · have HE := Lib.hid (show textL true t.data.toList n = 39 :: escL t.data.toList ++ [39] from if_neg (fun h => hp h.1))
      have HP := Lib.hid (show plainL t.data.toList = false by simpa using hp)
      obtain ⟨E, hE⟩ : ∃ E : ByteArray, E = ⟨(escL t.data.toList).toArray⟩ := ⟨_, rfl⟩
      have hEs : E.size ≤ 2199023255552 := by
        have h1 := escL_length t.data.toList
        have h2 := cntS_le t.data.toList
        have h3 : E.size = (escL t.data.toList).length := by rw [hE]; exact List.size_toArray
        omega
      have hadd1 : ∀ w, (Op.stringOp .add ⟨#[39]⟩ E).run Tryz.prog w = .ok (.string (⟨#[39]⟩ ++ E)) w := fun w => run_string_add_sum w _ _ (by have : (⟨#[39]⟩ : ByteArray).size = 1 := rfl; omega)
      have hadd2 : ∀ w, (Op.stringOp .add (⟨#[39]⟩ ++ E) ⟨#[39]⟩).run Tryz.prog w = .ok (.string ((⟨#[39]⟩ ++ E) ++ ⟨#[39]⟩)) w := fun w => run_string_add_sum w _ _ (by rw [ByteArray.size_append]; have : (⟨#[39]⟩ : ByteArray).size = 1 := rfl; omega)
      have HEE := Lib.hid hE
      clear hp htl hE hEs
      go_enter Tryz.func48, Tryz.ntmps48
      go_wp2_with (go_at_call 47; refine (plain_calls t _ (by unfold maxLen; omega)).mono ?_; rw [HP.out]; rintro e w2 ⟨rfl, hb⟩; have d1 := cell_below hb (show (w.alloc (.cells #[.bool true, .string t, .int .i64 n] 59)).cell? ⟨w.heap.size, 1, none⟩ = some (.string t) from by simp); have HB2 := Lib.hid (HB.out.trans (hb.mono HB.out.size)); have D1 := Lib.hid d1; clear hb)
      go_region_held3 (fun W => W.cell? ⟨w.heap.size, 1, none⟩ = some (.string t) ∧ Below w2.heap.size w2 W)
        ((go_split_ands; refine ⟨?_, ?_⟩; (focus (first | with_reducible assumption | (refine cell_below (w := w2) ?_ D1.out; (repeat (first | with_reducible assumption | with_reducible exact Below.refl _ _ | with_reducible apply Below.drew | (with_reducible refine Below.alloc ?_ ?_ _; rotate_left; focus ((first | omega | (simp <;> omega)); done))))))); (focus (repeat (first | with_reducible assumption | with_reducible exact Below.refl _ _ | with_reducible apply Below.drew | (with_reducible refine Below.alloc ?_ ?_ _; rotate_left; focus ((first | omega | (simp <;> omega)); done)))))))
        (first
          | (go_at_call 60; ((with_reducible refine (new_calls _ _ _ ?_).mono ?_)); (focus (first | exact six_new w2 | exact (six_new w2).drew)); rintro e w3 ⟨r, g, c, rfl, hF, hb3⟩; have HF := Lib.hid hF; have hsz3 := hb3.size; have HSZ3 := Lib.hid hsz3; (refine (have hb23 : Below w2.heap.size w2 w3 := ?_; ?_); focus (refine below_then ?_ hb3 ?_; (focus (repeat (first | with_reducible assumption | with_reducible exact Below.refl _ _ | with_reducible apply Below.drew | (with_reducible refine Below.alloc ?_ ?_ _; rotate_left; focus ((first | omega | (simp <;> omega)); done))))); (simp; done))); have HB23 := Lib.hid hb23; clear hF hb3 hsz3)
          | (go_at_call 61; refine (replacer_calls _ _ _ _ t _ HF.out HSZ3.out ht).mono ?_; rintro e w4 ⟨rfl, hb4⟩; rw [← HEE.out]; (refine (have hb24 : Below w2.heap.size w2 w4 := ?_; ?_); focus (refine HB23.out.trans (hb4.mono ?_); (simp; done))); have HB24 := Lib.hid hb24; clear hb4))
      go_wp2_with fail
      go_ret
      exact ⟨by rw [HE.out, ← marks_eq, ← HEE.out]; rfl, HB2.out.trans (by have := HB24.out; exact this.mono HB2.out.size)⟩
end Go.Proofs.YtdfjhhhbkgelaaaGreatDoor.V
