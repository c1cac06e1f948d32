/- token.told: a token's text. -/
import Derived.Test.YtdfjhhhbkgelaaaGreatDoorTold
import Derived.Test.YtdfjhhhbkgelaaaGreatDoorBld
import Derived.Lib.ItoaLen
namespace Go.Proofs.YtdfjhhhbkgelaaaGreatDoor.V
set_option linter.unusedVariables false
set_option linter.unusedSimpArgs false
open Go.RowKit

theorem toldL_size (k : Int) (s : List UInt8) (n : Int) (q : Bool) (h0 : -9223372036854775808 ≤ n) (h1 : n ≤ 9223372036854775807) : (toldL k s n q).length ≤ 2 * s.length + 21 := by
  have h2 := escL_le2 s
  have h3 := Lib.itoa_length_le n h0 h1
  unfold toldL
  repeat' split
  · simp; omega
  · omega
  · unfold textL
    simp only
    split
    · omega
    · simp; omega
  · omega
  · simp
  · omega

set_option maxRecDepth 100000 in
set_option maxHeartbeats 4000000 in
theorem told_calls (k : Int) (s : ByteArray) (n : Int) (q : Bool) (p : Int) (w : World) (hs : s.size ≤ 1099511627776) (h0 : -9223372036854775808 ≤ n) (h1 : n ≤ 9223372036854775807) (hw : TabW w) :
    Calls Tryz.prog 21 #[.agg #[.int .i64 k, .string s, .int .i64 n, .bool q, .int .i64 p]] w fun e w' => e = .returned (.string ⟨(toldL k s.data.toList n q).toArray⟩) ∧ Below w.heap.size w w' := by
  have hbl := (Below.refl w.heap.size w).alloc (Nat.le_refl _) (.cells #[.int .i64 k, .string s, .int .i64 n, .bool q, .int .i64 p] 35)
  have hnew := heap_alloc_new w (.cells #[.int .i64 k, .string s, .int .i64 n, .bool q, .int .i64 p] 35)
  have HW := Lib.hid (hw.below hbl)
  have HB := Lib.hid hbl
  have HN := Lib.hid hnew
  have H01 := Lib.hid (And.intro h0 h1)
  have hsm : s.size ≤ maxLen := by unfold maxLen; omega
  have HP := Lib.hid (fun W => plain_calls s W hsm)
  clear hbl hnew h0 h1 hsm hw
  by_cases hk : k = 1
  · subst hk
    cases hp : plainL s.data.toList with
    | true =>
      cases q with
      | true =>
        have hadd1 : ∀ w, (Op.stringOp .add ⟨#[39]⟩ s).run Tryz.prog w = .ok (.string (⟨#[39]⟩ ++ s)) w := fun w => run_string_add_sum w _ _ (by have : (⟨#[39]⟩ : ByteArray).size = 1 := rfl; omega)
        have hadd2 : ∀ w, (Op.stringOp .add (⟨#[39]⟩ ++ s) ⟨#[39]⟩).run Tryz.prog w = .ok (.string ((⟨#[39]⟩ ++ s) ++ ⟨#[39]⟩)) w := fun w => run_string_add_sum w _ _ (by rw [ByteArray.size_append]; have : (⟨#[39]⟩ : ByteArray).size = 1 := rfl; omega)
        have HE := Lib.hid (show toldL 1 s.data.toList n true = 39 :: s.data.toList ++ [39] from if_pos ⟨rfl, hp, rfl⟩)
        have hpp := Lib.hid hp
        clear hp
        go_enter Tryz.func21, Tryz.ntmps21
        go_wp2_with (go_at_call 47; ((with_reducible refine (HP.out _).mono ?_); rw [hpp.out]; rintro e w2 ⟨rfl, hb⟩; have d1 := cell_below hb (cell_of_row _ _ 1 _ _ _ HN.out); have d3 := cell_below hb (cell_of_row _ _ 3 _ _ _ HN.out); have HB2 := Lib.hid (HB.out.trans (hb.mono HB.out.size)); clear hb))
        go_ret
        exact ⟨by rw [HE.out, ← marks_eq, of_bytes]; rfl, HB2.out⟩
      | false =>
        have HE := Lib.hid (show toldL 1 s.data.toList n false = s.data.toList from by unfold toldL; rw [if_neg (by simp), if_neg (by simp [hp]), if_neg (by decide), if_neg (by decide)])
        have hpp := Lib.hid hp
        clear hp
        go_enter Tryz.func21, Tryz.ntmps21
        go_wp2_with (first
          | (go_at_call 47; ((with_reducible refine (HP.out _).mono ?_); rw [hpp.out]; rintro e w2 ⟨rfl, hb⟩; have d0 := cell_below hb (cell_of_row _ _ 0 _ _ _ HN.out); have d1 := cell_below hb (cell_of_row _ _ 1 _ _ _ HN.out); have d2 := cell_below hb (cell_of_row _ _ 2 _ _ _ HN.out); have d3 := cell_below hb (cell_of_row _ _ 3 _ _ _ HN.out); have HW2 := Lib.hid (HW.out.below hb); have HB2 := Lib.hid (HB.out.trans (hb.mono HB.out.size)); clear hb))
          | (go_at_call 47; ((with_reducible refine (HP.out w2).mono ?_); rw [hpp.out]; rintro e w3 ⟨rfl, hb⟩; have d0 := cell_below hb d0; have d1 := cell_below hb d1; have d2 := cell_below hb d2; have d3 := cell_below hb d3; have HW3 := Lib.hid (HW2.out.below hb); have HB3 := Lib.hid (HB2.out.trans (hb.mono HB2.out.size)); clear hb)))
        go_ret
        exact ⟨by rw [HE.out, of_bytes]; rfl, HB3.out⟩
    | false =>
      have hpp := Lib.hid hp
      cases hn : (s.toList == [110, 111, 116]) with
      | true =>
        have hn2 : s.data.toList = [110, 111, 116] := by rw [← ByteArray.toList_eq]; simpa using hn
        cases q with
        | false =>
          have HE := Lib.hid (show toldL 1 s.data.toList n false = s.data.toList from by unfold toldL; rw [if_neg (by simp), if_pos ⟨rfl, hp⟩, if_pos ⟨hn2, rfl⟩])
          clear hp hn2
          go_enter Tryz.func21, Tryz.ntmps21
          go_wp2_with (first
            | (go_at_call 47; ((with_reducible refine (HP.out _).mono ?_); rw [hpp.out]; rintro e w2 ⟨rfl, hb⟩; have d0 := cell_below hb (cell_of_row _ _ 0 _ _ _ HN.out); have d1 := cell_below hb (cell_of_row _ _ 1 _ _ _ HN.out); have d2 := cell_below hb (cell_of_row _ _ 2 _ _ _ HN.out); have d3 := cell_below hb (cell_of_row _ _ 3 _ _ _ HN.out); have HW2 := Lib.hid (HW.out.below hb); have HB2 := Lib.hid (HB.out.trans (hb.mono HB.out.size)); clear hb))
            | (go_at_call 47; ((with_reducible refine (HP.out w2).mono ?_); rw [hpp.out]; rintro e w3 ⟨rfl, hb⟩; have d0 := cell_below hb d0; have d1 := cell_below hb d1; have d2 := cell_below hb d2; have d3 := cell_below hb d3; have HW3 := Lib.hid (HW2.out.below hb); have HB3 := Lib.hid (HB2.out.trans (hb.mono HB2.out.size)); clear hb)))
          go_ret
          exact ⟨by rw [HE.out, of_bytes]; rfl, HB3.out⟩
        | true =>
          have HE := Lib.hid (show toldL 1 s.data.toList n true = textL true s.data.toList 0 from by unfold toldL; rw [if_neg (by simp [hp]), if_pos ⟨rfl, hp⟩, if_neg (by simp)])
          clear hp hn2
          go_enter Tryz.func21, Tryz.ntmps21
          go_wp2_with (first
            | (go_at_call 47; ((with_reducible refine (HP.out _).mono ?_); rw [hpp.out]; rintro e w2 ⟨rfl, hb⟩; have d0 := cell_below hb (cell_of_row _ _ 0 _ _ _ HN.out); have d1 := cell_below hb (cell_of_row _ _ 1 _ _ _ HN.out); have d2 := cell_below hb (cell_of_row _ _ 2 _ _ _ HN.out); have d3 := cell_below hb (cell_of_row _ _ 3 _ _ _ HN.out); have HW2 := Lib.hid (HW.out.below hb); have HB2 := Lib.hid (HB.out.trans (hb.mono HB.out.size)); clear hb))
            | (go_at_call 47; ((with_reducible refine (HP.out w2).mono ?_); rw [hpp.out]; rintro e w3 ⟨rfl, hb⟩; have d0 := cell_below hb d0; have d1 := cell_below hb d1; have d2 := cell_below hb d2; have d3 := cell_below hb d3; have HW3 := Lib.hid (HW2.out.below hb); have HB3 := Lib.hid (HB2.out.trans (hb.mono HB2.out.size)); clear hb))
            | (go_at_call 49; ((with_reducible refine (sym_calls s w3).mono ?_); rintro e w4 ⟨rfl, hb⟩; have HW4 := Lib.hid (HW3.out.below hb); have HB4 := Lib.hid (HB3.out.trans (hb.mono HB3.out.size)); clear hb))
            | (go_at_call 48; ((with_reducible refine (text_calls true s 0 w4 hs (by decide) (by decide) HW4.out).mono ?_); rintro e w5 ⟨rfl, hb⟩; have HB5 := Lib.hid (HB4.out.trans (hb.mono HB4.out.size)); clear hb)))
          go_ret
          exact ⟨by rw [HE.out]; rfl, HB5.out⟩
      | false =>
        have hn2 : ¬ s.data.toList = [110, 111, 116] := by rw [← ByteArray.toList_eq]; simpa using hn
        have HE := Lib.hid (show toldL 1 s.data.toList n q = textL true s.data.toList 0 from by unfold toldL; rw [if_neg (by simp [hp]), if_pos ⟨rfl, hp⟩, if_neg (fun h => hn2 h.1)])
        clear hp hn2
        go_enter Tryz.func21, Tryz.ntmps21
        go_wp2_with (first
          | (go_at_call 47; ((with_reducible refine (HP.out _).mono ?_); rw [hpp.out]; rintro e w2 ⟨rfl, hb⟩; have d0 := cell_below hb (cell_of_row _ _ 0 _ _ _ HN.out); have d1 := cell_below hb (cell_of_row _ _ 1 _ _ _ HN.out); have d2 := cell_below hb (cell_of_row _ _ 2 _ _ _ HN.out); have d3 := cell_below hb (cell_of_row _ _ 3 _ _ _ HN.out); have HW2 := Lib.hid (HW.out.below hb); have HB2 := Lib.hid (HB.out.trans (hb.mono HB.out.size)); clear hb))
          | (go_at_call 47; ((with_reducible refine (HP.out w2).mono ?_); rw [hpp.out]; rintro e w3 ⟨rfl, hb⟩; have d0 := cell_below hb d0; have d1 := cell_below hb d1; have d2 := cell_below hb d2; have d3 := cell_below hb d3; have HW3 := Lib.hid (HW2.out.below hb); have HB3 := Lib.hid (HB2.out.trans (hb.mono HB2.out.size)); clear hb))
          | (go_at_call 49; ((with_reducible refine (sym_calls s w3).mono ?_); rintro e w4 ⟨rfl, hb⟩; have HW4 := Lib.hid (HW3.out.below hb); have HB4 := Lib.hid (HB3.out.trans (hb.mono HB3.out.size)); clear hb))
          | (go_at_call 48; ((with_reducible refine (text_calls true s 0 w4 hs (by decide) (by decide) HW4.out).mono ?_); rintro e w5 ⟨rfl, hb⟩; have HB5 := Lib.hid (HB4.out.trans (hb.mono HB4.out.size)); clear hb)))
        go_ret
        exact ⟨by rw [HE.out]; rfl, HB5.out⟩
  · have hk1 : (k == 1) = false := by simpa using hk
    cases hk3 : (k == 3) with
    | true =>
      have hk3' : k = 3 := by simpa using hk3
      have HE := Lib.hid (show toldL k s.data.toList n q = Lib.itoa n from by unfold toldL; rw [if_neg (fun h => hk h.1), if_neg (fun h => hk h.1), if_pos hk3'])
      clear hk hk3'
      go_enter Tryz.func21, Tryz.ntmps21
      go_wp2_with (go_at_call 50; refine (Tryz.strconv_FormatInt_10 n H01.out.1 H01.out.2 _ HW.out.2).mono ?_; rintro e w' ⟨rfl, q, os, rfl⟩)
      go_ret
      exact ⟨by rw [HE.out]; rfl, below_grow HB.out HB.out.size _ _⟩
    | false =>
      have hk3' : ¬ k = 3 := by simpa using hk3
      by_cases ho : k < 1 ∨ 4 < k
      · have HE := Lib.hid (show toldL k s.data.toList n q = [] from by unfold toldL; rw [if_neg (fun h => hk h.1), if_neg (fun h => hk h.1), if_neg hk3', if_pos ho])
        clear hk hk3'
        by_cases hl : k < 1
        · have hld : decide (k < 1) = true := decide_eq_true hl
          clear ho hl
          go_enter Tryz.func21, Tryz.ntmps21
          go_wp2_with fail
          go_ret
          exact ⟨by rw [HE.out]; rfl, HB.out⟩
        · have hld : decide (k < 1) = false := decide_eq_false hl
          have hgd : decide (4 < k) = true := decide_eq_true (by omega)
          clear ho hl
          go_enter Tryz.func21, Tryz.ntmps21
          go_wp2_with fail
          go_ret
          exact ⟨by rw [HE.out]; rfl, HB.out⟩
      · have HE := Lib.hid (show toldL k s.data.toList n q = s.data.toList from by unfold toldL; rw [if_neg (fun h => hk h.1), if_neg (fun h => hk h.1), if_neg hk3', if_neg ho])
        have hld : decide (k < 1) = false := decide_eq_false (by omega)
        have hgd : decide (4 < k) = false := decide_eq_false (by omega)
        clear ho hk hk3'
        go_enter Tryz.func21, Tryz.ntmps21
        go_wp2_with fail
        go_ret
        exact ⟨by rw [HE.out, of_bytes]; rfl, HB.out⟩
end Go.Proofs.YtdfjhhhbkgelaaaGreatDoor.V
