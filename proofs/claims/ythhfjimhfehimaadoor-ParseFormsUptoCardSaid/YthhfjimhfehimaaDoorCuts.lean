/- lambrequinlaw06.ParseCuts. -/
import Derived.Test.YthhfjimhfehimaaDoorCutP
import Derived.Test.YthhfjimhfehimaaDoorShow6
namespace Go.Proofs.YthhfjimhfehimaaDoor.V
set_option linter.unusedVariables false
set_option linter.unusedSimpArgs false
open Go.RowKit

theorem parse_yes {g : List DeclL × List RuleL} (s : ByteArray) (w : World) (hs : s.size ≤ 9223372036854775807) (hE : ErrW w) (h : parseL s.data.toList = .ok g) :
    Calls Tryd.prog 7 #[.string s] w fun e w' => Below w.heap.size w w' ∧ ∃ Ad cd Ar cr, e = .returned (.tuple #[.agg #[.slice Ad g.1.length cd, .slice Ar g.2.length cr], .int .i64 0, .int .i64 0]) := by
  refine (parse_calls s w hs hE).mono ?_
  rintro e w' ⟨hb, hp⟩
  rw [h] at hp
  obtain ⟨vd, vr, rfl, hd, ⟨qs, hq, ho, _⟩, _, _⟩ := hp
  obtain ⟨Ad, cd, rfl⟩ := o_slice hd
  have hl : qs.length = g.2.length := by rw [← hq]; simp
  rw [hl] at ho
  obtain ⟨Ar, cr, rfl⟩ := o_slice ho
  exact ⟨hb, Ad, cd, Ar, cr, rfl⟩
theorem parse_no {a n : Nat} (s : ByteArray) (w : World) (hs : s.size ≤ 9223372036854775807) (hE : ErrW w) (h : parseL s.data.toList = .bad a n) :
    Calls Tryd.prog 7 #[.string s] w fun e w' => Below w.heap.size w w' ∧ e = .returned (.tuple #[.agg #[.slice none 0 0, .slice none 0 0], .int .i64 (a : Int), .int .i64 (n : Int)]) := by
  refine (parse_calls s w hs hE).mono ?_
  rintro e w' ⟨hb, hp⟩
  rw [h] at hp
  exact ⟨hb, hp⟩
theorem size_list (s : ByteArray) : s.data.toList.length = s.size := by simp
theorem app_list (s t : ByteArray) : (s ++ t).data.toList = s.data.toList ++ t.data.toList := by
  rw [ByteArray.data_append, Array.toList_append]

set_option maxRecDepth 100000 in
set_option maxHeartbeats 16000000 in
theorem cuts_calls (s : ByteArray) (w : World) (hs : s.size ≤ 1048576) (hE : ErrW w) :
    Calls Tryd.prog 3 #[.string s] w fun e w' => e = .returned (.bool true) ∧ Below w.heap.size w w' := by
  have HE := Lib.hid hE
  clear hE
  by_cases h8 : 8000 < s.size
  · have hd8 : decide ((8000 : Int) < (s.size : Int)) = true := decide_eq_true (by omega)
    go_enter Tryd.func3, Tryd.ntmps3
    go_wp2_with (go_at_call 6; ((with_reducible refine (shown6_calls _ HE.out).mono ?_); rintro e w1 ⟨rfl, hb1⟩; have HB1 := Lib.hid hb1; clear hb1))
    go_ret
    exact ⟨rfl, HB1.out⟩
  · have hd8 : decide ((8000 : Int) < (s.size : Int)) = false := decide_eq_false (by omega)
    have h8' : s.size ≤ 8000 := by omega
    have hs9 : s.size ≤ 9223372036854775807 := by omega
    cases hp : parseL s.data.toList with
    | bad a n =>
      have hn : ((n : Int) != 0) = true := by have := parseL_bad hp; simp; omega
      have HP := Lib.hid hp
      clear hp
      go_enter Tryd.func3, Tryd.ntmps3
      go_wp2_with (first
        | (go_at_call 6; ((with_reducible refine (shown6_calls _ HE.out).mono ?_); rintro e w1 ⟨rfl, hb1⟩; have HB1 := Lib.hid hb1; have HE1 := Lib.hid (HE.out.below hb1); clear hb1))
        | (go_at_call 7; ((with_reducible refine (parse_no s _ hs9 HE1.out HP.out).mono ?_); rintro e w2 ⟨hb2, rfl⟩; have HB2 := Lib.hid (HB1.out.trans (hb2.mono HB1.out.size)); clear hb2)))
      go_ret
      exact ⟨rfl, HB2.out.alloc HB2.out.size _⟩
    | ok g =>
      have HP := Lib.hid hp
      obtain ⟨D, hD⟩ : ∃ D, g.1.length = D := ⟨_, rfl⟩
      obtain ⟨R, hR⟩ : ∃ R, g.2.length = R := ⟨_, rfl⟩
      have HD := Lib.hid hD
      have HR := Lib.hid hR
      have HPY := Lib.hid (fun (W : World) (hE : ErrW W) => parse_yes s W hs9 hE hp)
      clear hp
      rw [hD, hR] at HPY
      by_cases hR4 : 400 ≤ R
      · have hr : decide ((400 : Int) ≤ (R : Int)) = true := decide_eq_true (by omega)
        clear hD hR
        go_enter Tryd.func3, Tryd.ntmps3
        go_wp2_with (first
          | (go_at_call 6; ((with_reducible refine (shown6_calls _ HE.out).mono ?_); rintro e w1 ⟨rfl, hb1⟩; have HB1 := Lib.hid hb1; have HE1 := Lib.hid (HE.out.below hb1); clear hb1))
          | (go_at_call 7; ((with_reducible refine (HPY.out _ HE1.out).mono ?_); rintro e w2 ⟨hb2, Ad, cd, Ar, cr, rfl⟩; have HB2 := Lib.hid (HB1.out.trans (hb2.mono HB1.out.size)); clear hb2)))
        go_ret
        exact ⟨rfl, HB2.out.alloc HB2.out.size _⟩
      · have hr : decide ((400 : Int) ≤ (R : Int)) = false := decide_eq_false (by omega)
        by_cases hD4 : 400 ≤ D
        · have hd : decide ((400 : Int) ≤ (D : Int)) = true := decide_eq_true (by omega)
          clear hD hR
          go_enter Tryd.func3, Tryd.ntmps3
          go_wp2_with (first
            | (go_at_call 6; ((with_reducible refine (shown6_calls _ HE.out).mono ?_); rintro e w1 ⟨rfl, hb1⟩; have HB1 := Lib.hid hb1; have HE1 := Lib.hid (HE.out.below hb1); clear hb1))
            | (go_at_call 7; ((with_reducible refine (HPY.out _ HE1.out).mono ?_); rintro e w2 ⟨hb2, Ad, cd, Ar, cr, rfl⟩; have HB2 := Lib.hid (HB1.out.trans (hb2.mono HB1.out.size)); clear hb2)))
          go_ret
          exact ⟨rfl, HB2.out.alloc HB2.out.size _⟩
        · have hd : decide ((400 : Int) ≤ (D : Int)) = false := decide_eq_false (by omega)
          have hsz : ∀ t : ByteArray, t.size ≤ 100 → (s ++ t).size ≤ 9223372036854775807 := fun t ht => by rw [ByteArray.size_append]; omega
          have hll : s.data.toList.length ≤ 8000 := by rw [size_list]; exact h8'
          have hr4 : g.2.length < 400 := by omega
          have HP1 := Lib.hid (fun (W : World) (hE : ErrW W) => parse_no (a := s.data.toList.length + 2) (n := 2) (s ++ ⟨#[10, 120]⟩) W (hsz _ (by decide)) hE (by rw [app_list]; exact cut_one HP.out hll hr4))
          have HP2 := Lib.hid (fun (W : World) (hE : ErrW W) => parse_no (a := s.data.toList.length + 1) (n := 2) (s ++ ⟨#[10, 46]⟩) W (hsz _ (by decide)) hE (by rw [app_list]; exact cut_dot HP.out hll hr4))
          have HP3 := Lib.hid (fun (W : World) (hE : ErrW W) => parse_no (a := s.data.toList.length + 6) (n := 2) (s ++ ⟨#[10, 120, 32, 58, 45, 32]⟩) W (hsz _ (by decide)) hE (by rw [app_list]; exact cut_open HP.out hll hr4))
          rw [size_list] at HP1 HP2 HP3
          simp only [Int.natCast_add] at HP1 HP2 HP3
          have hadd1 : ∀ w, (Op.stringOp .add s ⟨#[10, 120]⟩).run Tryd.prog w = .ok (.string (s ++ ⟨#[10, 120]⟩)) w := fun w => run_string_add_sum w _ _ (by have : (⟨#[10, 120]⟩ : ByteArray).size = 2 := rfl; omega)
          have hadd2 : ∀ w, (Op.stringOp .add s ⟨#[10, 46]⟩).run Tryd.prog w = .ok (.string (s ++ ⟨#[10, 46]⟩)) w := fun w => run_string_add_sum w _ _ (by have : (⟨#[10, 46]⟩ : ByteArray).size = 2 := rfl; omega)
          have hadd3 : ∀ w, (Op.stringOp .add s ⟨#[10, 120, 32, 58, 45, 32]⟩).run Tryd.prog w = .ok (.string (s ++ ⟨#[10, 120, 32, 58, 45, 32]⟩)) w := fun w => run_string_add_sum w _ _ (by have : (⟨#[10, 120, 32, 58, 45, 32]⟩ : ByteArray).size = 6 := rfl; omega)
          clear hD hR hsz hll hr4
          go_enter Tryd.func3, Tryd.ntmps3
          go_wp2_with (first
            | (go_at_call 6; ((with_reducible refine (shown6_calls _ HE.out).mono ?_); rintro e w1 ⟨rfl, hb1⟩; have HB1 := Lib.hid hb1; have HE1 := Lib.hid (HE.out.below hb1); clear hb1))
            | (go_at_call 7; ((with_reducible refine (HPY.out _ HE1.out).mono ?_); rintro e w2 ⟨hb2, Ad, cd, Ar, cr, rfl⟩; have HB2 := Lib.hid (HB1.out.trans (hb2.mono HB1.out.size)); have HE2 := Lib.hid ((HE1.out.below hb2).below ((Below.refl w2.heap.size w2).alloc (Nat.le_refl _) (.cells #[.slice Ad D cd, .slice Ar R cr] 26))); clear hb2))
            | (go_at_call 7; ((with_reducible refine (HP1.out _ HE2.out).mono ?_); rintro e w3 ⟨hb3, rfl⟩; have HB3 := Lib.hid ((HB2.out.alloc HB2.out.size _).trans (hb3.mono (by have := HB2.out.size; simp; omega))); have HE3 := Lib.hid ((HE2.out.below hb3).below ((Below.refl w3.heap.size w3).alloc (Nat.le_refl _) (.cells #[.slice none 0 0, .slice none 0 0] 26))); clear hb3))
            | (go_at_call 7; ((with_reducible refine (HP2.out _ HE3.out).mono ?_); rintro e w4 ⟨hb4, rfl⟩; have HB4 := Lib.hid ((HB3.out.alloc HB3.out.size _).trans (hb4.mono (by have := HB3.out.size; simp; omega))); have HE4 := Lib.hid ((HE3.out.below hb4).below ((Below.refl w4.heap.size w4).alloc (Nat.le_refl _) (.cells #[.slice none 0 0, .slice none 0 0] 26))); clear hb4))
            | (go_at_call 7; ((with_reducible refine (HP3.out _ HE4.out).mono ?_); rintro e w5 ⟨hb5, rfl⟩; have HB5 := Lib.hid ((HB4.out.alloc HB4.out.size _).trans (hb5.mono (by have := HB4.out.size; simp; omega))); clear hb5)))
          go_ret
          exact ⟨rfl, HB5.out.alloc HB5.out.size _⟩
end Go.Proofs.YthhfjimhfehimaaDoor.V
