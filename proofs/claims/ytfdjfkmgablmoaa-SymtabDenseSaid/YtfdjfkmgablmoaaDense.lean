/- The walk of SymtabDense: for every list of values it returns true, and all that was there lies as it lay. No condition but that values are values. -/
import Derived.Test.YtfdjfkmgablmoaaLists
namespace Go.Proofs.Ytfdjfkmgablmoaa.Tab
open Go.RowKit Go.Maps Go.Proofs.YtfdjfkmgablmoaaW.PrintWords Go.Proofs.Ytfdjfkmgablmoaa.PSymtabPlays

set_option maxHeartbeats 8000000 in
set_option maxRecDepth 100000 in
theorem dense_walk (A : Option Addr) (cap : Nat) (l : List S29) (w : World) (hC : Kd.C k29 w A l.length l) (hl : ∀ x ∈ l, Ok x) :
    Calls Try.prog 6 #[.slice A l.length cap] w (ShownPost w) := by
  have hlen : l.length ≤ 9223372036854775807 := hC.2.1
  have HC := Aside0.mk hC
  have HL := Aside0.mk hl
  clear hC hl
  go_enter Try.func6, Try.ntmps6
  go_wp2_with fail
  refine (shown_any _).mono ?_
  rintro e w1 ⟨rfl, hb1⟩
  have HB1 := Aside0.mk hb1
  clear hb1
  go_wp2_with fail
  refine (new_any w w.heap.size _ HB1.out HB1.out.size).mono ?_
  rintro e w2 ⟨tb, rfl, hT2, hB2, _⟩
  have HB2 := Aside0.mk hB2
  have HT2 := Aside0.mk (hT2.mono (ok' := fun _ => True) (fun _ _ => trivial))
  clear hT2 hB2
  go_wp2_with fail
  go_loopw [5, 6] (fun top i wr => ∃ k : Nat, k ≤ l.length ∧ k ≤ 200 ∧ i = .int .i64 k ∧ top = .int .i64 ((tabL (l.take k)).length : Nat) ∧ IsTab wr w.heap.size (fun _ => True) tb (tabL (l.take k)) ∧ Below w.heap.size w wr) (fun _ i _ => 200 - (intOf i).toNat)
  case atStart => exact ⟨0, by omega, by omega, rfl, rfl, HT2.out, HB2.out⟩
  case round =>
    obtain ⟨k, hk1, hk2, rfl, rfl, hT, hB⟩ := hrel
    have HT := Aside0.mk hT
    have HB := Aside0.mk hB
    have hz := hB.size
    clear hT hB
    have hL := tabL_len l k
    by_cases hlt : k < l.length ∧ k < 200
    · obtain ⟨h1, h2⟩ := hlt
      have hokx := ok_of HL.out h1
      have hst := tabL_take h1
      obtain ⟨ad, rfl, c0, c1, c2⟩ := cells_at HC.out h1
      have HS := Aside0.mk hst
      generalize rd_T29 l (k : Int) = x at *
      generalize tabL (l.take k) = L at *
      generalize htn : tabL (l.take (k + 1)) = L' at *
      have HN := Aside0.mk htn
      clear htn
      have d0 := pw_cell_below HB.out c0
      have d1 := pw_cell_below HB.out c1
      have d2 := pw_cell_below HB.out c2
      have HX := Aside0.mk hokx
      clear hst hokx
      by_cases hm : norm x ∈ L
      · obtain ⟨j, hj⟩ : ∃ j, j = L.idxOf (norm x) := ⟨_, rfl⟩
        have hjl : j < L.length := by rw [hj]; exact idxOf_lt hm
        have hL' : L' = L := by rw [HS.out, putL, if_pos hm]
        have HJ := Aside0.mk hj
        have HM := Aside0.mk hm
        have HS' := Aside0.mk hL'
        clear hj hm hL'
        go_wp2_with fail
        refine (find_yes HT.out HX.out HM.out HJ.out).mono ?_
        rintro e w3 ⟨rfl, hb3⟩
        have HB3 := Aside0.mk (below_then HB.out hz hb3)
        have HT3 := Aside0.mk (HT.out.below hb3)
        have hz3 := HB3.out.size
        have d0 := pw_cell_below HB3.out c0
        have d1 := pw_cell_below HB3.out c1
        have d2 := pw_cell_below HB3.out c2
        clear hb3
        go_wp2_with fail
        refine (put_to w HT3.out HB3.out hz3 HX.out (by omega) HJ.out HS.out).mono ?_
        rintro e w4 ⟨rfl, hT4, hB4, _⟩
        have HB4 := Aside0.mk hB4
        have HT4 := Aside0.mk hT4
        clear hT4 hB4
        go_wp2
        go_roundw
        case rel => exact ⟨k + 1, by omega, by omega, by go_num, by rw [HN.out, HS'.out], by rw [HN.out]; exact HT4.out, HB4.out⟩
        case measure => simp [intOf]; omega
      · have hj : L.length = L.idxOf (norm x) := (List.idxOf_eq_length hm).symm
        have hL' : L'.length = L.length + 1 := by rw [HS.out, putL, if_neg hm]; simp
        have HJ := Aside0.mk hj
        have HM := Aside0.mk hm
        have HS' := Aside0.mk hL'
        clear hj hm hL'
        go_wp2_with fail
        refine (find_no HT.out HX.out HM.out).mono ?_
        rintro e w3 ⟨rfl, hb3⟩
        have HB3 := Aside0.mk (below_then HB.out hz hb3)
        have HT3 := Aside0.mk (HT.out.below hb3)
        have hz3 := HB3.out.size
        have d0 := pw_cell_below HB3.out c0
        have d1 := pw_cell_below HB3.out c1
        have d2 := pw_cell_below HB3.out c2
        clear hb3
        go_wp2_with fail
        refine (put_to w HT3.out HB3.out hz3 HX.out (by omega) HJ.out HS.out).mono ?_
        rintro e w4 ⟨rfl, hT4, hB4, _⟩
        have HB4 := Aside0.mk hB4
        have HT4 := Aside0.mk hT4
        clear hT4 hB4
        go_wp2
        go_roundw
        case rel => exact ⟨k + 1, by omega, by omega, by go_num, by rw [HN.out, HS'.out]; go_num, by rw [HN.out]; exact HT4.out, HB4.out⟩
        case measure => simp [intOf]; omega
    · generalize tabL (l.take k) = L at *
      by_cases h1 : k < l.length
      all_goals
        go_wp2_with fail
        go_loopw [10] (fun n wq => ∃ m : Int, -1 ≤ m ∧ m ≤ L.length + 1 ∧ n = .int .i64 m ∧ IsTab wq w.heap.size any tb L ∧ Below w.heap.size w wq) (fun n _ => (L.length + 1 - intOf n).toNat)
        case atStart => exact ⟨-1, by omega, by omega, rfl, HT.out, HB.out⟩
        case round =>
          obtain ⟨m, hm1, hm2, rfl, hT, hB⟩ := hrel
          have HT1 := Aside0.mk hT
          have HB1 := Aside0.mk hB
          clear hT hB
          by_cases hm : m ≤ L.length
          · by_cases hin : 0 ≤ m ∧ m < L.length
            · have hd : decide (0 ≤ m ∧ m < (L.length : Int)) = true := by simpa using hin
              obtain ⟨hin1, hin2⟩ := hin
              go_wp2_with fail
              refine (at_any _ _ tb L m _ HT1.out).mono ?_
              rintro e w3 ⟨rfl, hb3⟩
              rw [hd]
              have HB3 := Aside0.mk ((below_then HB1.out HB1.out.size hb3).alloc (Nat.le_trans HB1.out.size hb3.size) (.cells #[.bool (atL L m).f0, .string (atL L m).f1, .int .i64 (atL L m).f2] 29))
              have HT3 := Aside0.mk ((HT1.out.below hb3).below (below_alloc (Below.refl _ _) (.cells #[.bool (atL L m).f0, .string (atL L m).f1, .int .i64 (atL L m).f2] 29)))
              clear hb3 hd
              go_wp2
              go_roundw
              case rel => exact ⟨m + 1, by omega, by omega, rfl, HT3.out, HB3.out⟩
              case measure => simp [intOf]; omega
            · have hd : decide (0 ≤ m ∧ m < (L.length : Int)) = false := by simpa using hin
              have hcase : m < 0 ∨ m = L.length := by omega
              have HC1 := Aside0.mk hcase
              clear hin hcase
              rcases HC1.out with hneg | heq
              · clear HC1
                go_wp2_with fail
                refine (at_any _ _ tb L m _ HT1.out).mono ?_
                rintro e w3 ⟨rfl, hb3⟩
                rw [hd]
                have HB3 := Aside0.mk ((below_then HB1.out HB1.out.size hb3).alloc (Nat.le_trans HB1.out.size hb3.size) (.cells #[.bool (atL L m).f0, .string (atL L m).f1, .int .i64 (atL L m).f2] 29))
                have HT3 := Aside0.mk ((HT1.out.below hb3).below (below_alloc (Below.refl _ _) (.cells #[.bool (atL L m).f0, .string (atL L m).f1, .int .i64 (atL L m).f2] 29)))
                clear hb3 hd
                go_wp2
                go_roundw
                case rel => exact ⟨m + 1, by omega, by omega, rfl, HT3.out, HB3.out⟩
                case measure => simp [intOf]; omega
              · clear HC1
                have hge : (L.length : Int) ≤ m := by omega
                clear heq
                have hnn : 0 ≤ m := by omega
                go_wp2_with fail
                refine (at_any _ _ tb L m _ HT1.out).mono ?_
                rintro e w3 ⟨rfl, hb3⟩
                rw [hd]
                have HB3 := Aside0.mk ((below_then HB1.out HB1.out.size hb3).alloc (Nat.le_trans HB1.out.size hb3.size) (.cells #[.bool (atL L m).f0, .string (atL L m).f1, .int .i64 (atL L m).f2] 29))
                have HT3 := Aside0.mk ((HT1.out.below hb3).below (below_alloc (Below.refl _ _) (.cells #[.bool (atL L m).f0, .string (atL L m).f1, .int .i64 (atL L m).f2] 29)))
                clear hb3 hd
                go_wp2
                go_roundw
                case rel => exact ⟨m + 1, by omega, by omega, rfl, HT3.out, HB3.out⟩
                case measure => simp [intOf]; omega
          · go_wp2_with fail
            refine (len_any _ _ tb L _ HT1.out).mono ?_
            rintro e w' ⟨rfl, rfl⟩
            go_wp2
            go_ret
            exact ⟨rfl, HB1.out⟩
end Go.Proofs.Ytfdjfkmgablmoaa.Tab
