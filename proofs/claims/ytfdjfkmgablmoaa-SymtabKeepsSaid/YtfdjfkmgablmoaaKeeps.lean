/- The walk of SymtabKeeps: for all lists of values and every value it returns true, and all that was there lies as it lay. No condition but that values are values. -/
import Derived.Test.YtfdjfkmgablmoaaLists
namespace Go.Proofs.Ytfdjfkmgablmoaa.Tab
open Go.RowKit Go.Maps Go.Proofs.YtfdjfkmgablmoaaW.PrintWords Go.Proofs.Ytfdjfkmgablmoaa.PSymtabPlays

set_option maxHeartbeats 8000000 in
set_option maxRecDepth 100000 in
theorem keeps_walk (A : Option Addr) (cap : Nat) (l : List S29) (Am : Option Addr) (cm : Nat) (m : List S29) (x : S29) (w : World) (hC : Kd.C k29 w A l.length l) (hl : ∀ x ∈ l, Ok x) (hCm : Kd.C k29 w Am m.length m) (hm : ∀ x ∈ m, Ok x) (hx : Ok x) :
    Calls Try.prog 4 #[.slice A l.length cap, .slice Am m.length cm, .agg #[.bool x.f0, .string x.f1, .int .i64 x.f2]] w (ShownPost w) := by
  have hlen : l.length ≤ 9223372036854775807 := hC.2.1
  have hlenm : m.length ≤ 9223372036854775807 := hCm.2.1
  have HC := Aside0.mk hC
  have HL := Aside0.mk hl
  have HCm := Aside0.mk hCm
  have HLm := Aside0.mk hm
  clear hC hl hCm hm
  go_enter Try.func4, Try.ntmps4
  go_wp2_with fail
  have HB0 := Aside0.mk (below_alloc (Below.refl w.heap.size w) (.cells #[.bool x.f0, .string x.f1, .int .i64 x.f2] 29))
  have HK0 := Aside0.mk (blk_new w (.cells #[.bool x.f0, .string x.f1, .int .i64 x.f2] 29))
  obtain ⟨gb, hgb⟩ : ∃ gb, gb = w.heap.size := ⟨_, rfl⟩
  rw [← hgb] at HK0 ⊢
  have HG := Aside0.mk hgb
  clear hgb
  generalize w.alloc (.cells #[.bool x.f0, .string x.f1, .int .i64 x.f2] 29) = wb at *
  refine (shown_any _).mono ?_
  rintro e w1 ⟨rfl, hb1⟩
  have HB1 := Aside0.mk hb1
  clear hb1
  go_wp2_with fail
  refine (new_any wb wb.heap.size _ HB1.out HB1.out.size).mono ?_
  rintro e w2 ⟨tb, rfl, hT2, hB2, _⟩
  have HB2 := Aside0.mk hB2
  have HT2 := Aside0.mk (hT2.mono (ok' := any) (fun _ _ => trivial))
  clear hT2 hB2
  go_wp2_with fail
  go_loopw [9, 10] (fun v i wr => ∃ k : Nat, k ≤ l.length ∧ k ≤ 100 ∧ i = .int .i64 k ∧ wr.ownsRow wb.heap.size 3 1 v (numsL l k).length (nums .i64 (numsL l k)) ∧ IsTab wr wb.heap.size any tb (tabL (l.take k)) ∧ Below wb.heap.size wb wr) (fun _ i _ => 100 - (intOf i).toNat)
  case atStart => exact ⟨0, by omega, by omega, rfl, own_nil _ _ _ _, HT2.out, HB2.out⟩
  case round =>
    obtain ⟨k, hk1, hk2, rfl, hO, hT, hB⟩ := hrel
    have HT := Aside0.mk hT
    have HB := Aside0.mk hB
    have HO := Aside0.mk hO
    have hz := hB.size
    clear hT hB hO
    have hL := tabL_len l k
    have hN := numsL_len l k
    by_cases hlt : k < l.length ∧ k < 100
    · obtain ⟨h1, h2⟩ := hlt
      have HX := Aside0.mk (ok_of HL.out h1)
      have HS := Aside0.mk (tabL_take h1)
      have HN := Aside0.mk (numsL_succ l k)
      obtain ⟨j, hj⟩ : ∃ j, j = numAt l k := ⟨_, rfl⟩
      rw [← hj] at HN
      unfold numAt at hj
      obtain ⟨ad, rfl, c0, c1, c2⟩ := cells_at HC.out h1
      generalize rd_T29 l (k : Int) = y at *
      generalize tabL (l.take k) = L at *
      generalize numsL l k = NS at *
      have HJ := Aside0.mk hj
      have hNS : NS.length ≤ 100 := by omega
      clear hj hN
      have d0 := pw_cell_below HB0.out c0
      have d1 := pw_cell_below HB0.out c1
      have d2 := pw_cell_below HB0.out c2
      have d0 := pw_cell_below HB.out d0
      have d1 := pw_cell_below HB.out d1
      have d2 := pw_cell_below HB.out d2
      obtain ⟨Av, cv, rfl, _⟩ := own_reads HO.out
      go_wp2_with fail
      refine (put_to wb HT.out HB.out hz HX.out (by omega) HJ.out HS.out).mono ?_
      rintro e w4 ⟨rfl, hT4, hB4, hK4⟩
      have HB4 := Aside0.mk hB4
      have HT4 := Aside0.mk hT4
      have HO4 := Aside0.mk (nums_keep HO.out hK4)
      have hz4 := hB4.size
      clear hT4 hB4 hK4
      go_wp2_with (at_builtin; refine print_append_num wb.heap.size rfl (.tmp 35) (.tmp 42) 26 3 .i64 8 rfl Try.underlying26 infoI (by decide) _ NS (j : Int) rfl rfl HO4.out HB4.out hz4 (by omega) ?_; intro v5 w5 hO5 hB5 hg5 hat5; obtain ⟨A5, c5, rfl, _⟩ := own_reads hO5; have HO5 := Aside0.mk hO5; have HB5 := Aside0.mk hB5; have HT5 := Aside0.mk (tab_keep HT4.out HO4.out hg5); clear hO5 hB5 hg5 hat5)
      go_roundw
      case rel => exact ⟨k + 1, by omega, by omega, by go_num, by rw [HN.out]; have t5 := HO5.out; rw [List.length_append, List.length_singleton] at t5 ⊢; exact t5, HT5.out, HB5.out⟩
      case measure => simp [intOf]; omega
    · have HST := Aside0.mk (fun (j : Nat) (hj : j < k) => numAt_stays (l := l) (j := j) (K := k) hj (by omega))
      have HNA := Aside0.mk (fun (j : Nat) (hj : j < k) => numsL_at (l := l) (k := k) (j := j) hj)
      generalize tabL (l.take k) = L at *
      generalize numsL l k = NS at *
      obtain ⟨Av, cv, rfl, hRv⟩ := own_reads HO.out
      have HRv := Aside0.mk hRv
      clear hRv
      have hNS : NS.length ≤ 100 := by omega
      have hkN : NS.length ≤ l.length := by omega
      rw [← hN] at HST HNA
      clear hN
      by_cases h1 : k < l.length
      all_goals
        go_wp2_with fail
        go_loopw [11] (fun i wr => ∃ q : Nat, q ≤ m.length ∧ q ≤ 100 ∧ i = .int .i64 q ∧ wr.ownsRow wb.heap.size 3 1 (.slice Av NS.length cv) NS.length (nums .i64 NS) ∧ IsTab wr wb.heap.size any tb (moreL L m q) ∧ Below wb.heap.size wb wr) (fun i _ => 100 - (intOf i).toNat)
        case atStart => exact ⟨0, by omega, by omega, rfl, HO.out, HT.out, HB.out⟩
        case round =>
          obtain ⟨q, hq1, hq2, rfl, hOq, hTq, hBq⟩ := hrel
          have HTq := Aside0.mk hTq
          have HBq := Aside0.mk hBq
          have HOq := Aside0.mk hOq
          have hzq := hBq.size
          clear hTq hBq hOq
          have hMl := moreL_len L m q
          by_cases hltq : q < m.length ∧ q < 100
          · obtain ⟨hq3, hq4⟩ := hltq
            have HX := Aside0.mk (ok_of HLm.out hq3)
            have HS := Aside0.mk (moreL_succ (L := L) hq3)
            obtain ⟨ad, rfl, c0, c1, c2⟩ := cells_at HCm.out hq3
            generalize rd_T29 m (q : Int) = y at *
            generalize moreL L m q = M at *
            have d0 := pw_cell_below HB0.out c0
            have d1 := pw_cell_below HB0.out c1
            have d2 := pw_cell_below HB0.out c2
            have d0 := pw_cell_below HBq.out d0
            have d1 := pw_cell_below HBq.out d1
            have d2 := pw_cell_below HBq.out d2
            go_wp2_with fail
            refine (put_to wb HTq.out HBq.out hzq HX.out (by omega) rfl HS.out).mono ?_
            rintro e w4 ⟨rfl, hT4, hB4, hK4⟩
            have HB4 := Aside0.mk hB4
            have HT4 := Aside0.mk hT4
            have HO4 := Aside0.mk (nums_keep HOq.out hK4)
            clear hT4 hB4 hK4
            go_wp2
            go_roundw
            case rel => exact ⟨q + 1, by omega, by omega, by go_num, HO4.out, HT4.out, HB4.out⟩
            case measure => simp [intOf]; omega
          · have HST2 := Aside0.mk (fun (j : Nat) (hj : j < NS.length) => (moreL_stays (m := m) (k := q) (HST.out j hj).2).1.trans (HST.out j hj).1)
            have HST3 := Aside0.mk (fun (j : Nat) (hj : j < NS.length) => (moreL_stays (m := m) (k := q) (HST.out j hj).2).2)
            generalize moreL L m q = M at *
            by_cases hq3 : q < m.length
            all_goals
              go_wp2_with fail
              go_loopw [12] (fun i wr => ∃ j : Nat, j ≤ NS.length ∧ i = .int .i64 j ∧ wr.ownsRow wb.heap.size 3 1 (.slice Av NS.length cv) NS.length (nums .i64 NS) ∧ IsTab wr wb.heap.size any tb M ∧ Below wb.heap.size wb wr) (fun i _ => NS.length - (intOf i).toNat)
              case atStart => exact ⟨0, by omega, rfl, HOq.out, HTq.out, HBq.out⟩
              case round =>
                obtain ⟨j, hj, rfl, hOj, hTj, hBj⟩ := hrel
                have HTj := Aside0.mk hTj
                have HBj := Aside0.mk hBj
                have HOj := Aside0.mk hOj
                have hzj := hBj.size
                clear hTj hBj hOj
                by_cases hlj : j < NS.length
                · have hjl : j < l.length := by omega
                  have HX := Aside0.mk (ok_of HL.out hjl)
                  obtain ⟨ad, rfl, c0, c1, c2⟩ := cells_at HC.out hjl
                  have g1 := HST2.out j hlj
                  have g2 := HST3.out j hlj
                  have g3 := HNA.out j hlj
                  generalize rd_T29 l (j : Int) = y at *
                  rw [← g1] at g3
                  have HG3 := Aside0.mk g3
                  have HG2 := Aside0.mk g2
                  clear g1 g2 g3
                  have d0 := pw_cell_below HB0.out c0
                  have d1 := pw_cell_below HB0.out c1
                  have d2 := pw_cell_below HB0.out c2
                  have d0 := pw_cell_below HBj.out d0
                  have d1 := pw_cell_below HBj.out d1
                  have d2 := pw_cell_below HBj.out d2
                  go_wp2_with fail
                  refine (find_yes HTj.out HX.out HG2.out rfl).mono ?_
                  rintro e w4 ⟨rfl, hb4⟩
                  have HB4 := Aside0.mk (below_then HBj.out hzj hb4)
                  have HT4 := Aside0.mk (HTj.out.below hb4)
                  have HO4 := Aside0.mk (pw_own_below HOj.out hb4)
                  clear hb4
                  obtain ⟨Aq, cq, eq, hr4⟩ := own_reads HO4.out
                  obtain ⟨rfl, rfl⟩ : Av = Aq ∧ cv = cq := by simpa using eq
                  obtain ⟨ad2, rfl, e0⟩ := hr4.at_ (j : Int) (by omega) (by omega)
                  simp only [Int.toNat_natCast, rd] at e0
                  rw [HG3.out] at e0
                  clear hr4 eq
                  go_wp2
                  go_roundw
                  case rel => exact ⟨j + 1, by omega, by go_num, HO4.out, HT4.out, HB4.out⟩
                  case measure => simp [intOf]; omega
                · skip
                  have hMl2 : M.length ≤ 400 := by omega
                  by_cases hmem : norm x ∈ M
                  · obtain ⟨jj, hjj⟩ : ∃ jj, jj = M.idxOf (norm x) := ⟨_, rfl⟩
                    have HP := Aside0.mk (show putL M x = M by rw [putL, if_pos hmem])
                    have HM := Aside0.mk hmem
                    have HJ := Aside0.mk hjj
                    have HM2 := Aside0.mk hmem
                    have HJ2 := Aside0.mk hjj
                    clear hmem hjj
                    have K0 := blk_below HK0.out HBj.out
                    have b0 : wr.cell? ⟨gb, 0, none⟩ = some (.bool x.f0) := (blk_cell K0 0).trans rfl
                    have b1 : wr.cell? ⟨gb, 1, none⟩ = some (.string x.f1) := (blk_cell K0 1).trans rfl
                    have b2 : wr.cell? ⟨gb, 2, none⟩ = some (.int .i64 x.f2) := (blk_cell K0 2).trans rfl
                    clear K0
                    go_wp2_with fail
                    refine (find_yes HTj.out hx HM.out HJ.out).mono ?_
                    rintro e w4 ⟨rfl, hb4⟩
                    have HB4 := Aside0.mk (below_then HBj.out hzj hb4)
                    have HT4 := Aside0.mk (HTj.out.below hb4)
                    have hz4 := HB4.out.size
                    clear hb4 b0 b1 b2
                    go_wp2_with fail
                    refine (len_any _ _ tb M _ HT4.out).mono ?_
                    rintro e w' ⟨rfl, rfl⟩
                    have K0 := blk_below HK0.out HB4.out
                    have b0 : w4.cell? ⟨gb, 0, none⟩ = some (.bool x.f0) := (blk_cell K0 0).trans rfl
                    have b1 : w4.cell? ⟨gb, 1, none⟩ = some (.string x.f1) := (blk_cell K0 1).trans rfl
                    have b2 : w4.cell? ⟨gb, 2, none⟩ = some (.int .i64 x.f2) := (blk_cell K0 2).trans rfl
                    clear K0
                    go_wp2_with fail
                    refine (put_to wb HT4.out HB4.out hz4 hx (by omega) HJ.out rfl).mono ?_
                    rintro e w5 ⟨rfl, hT5, hB5, _⟩
                    have HB5 := Aside0.mk hB5
                    rw [HP.out] at hT5
                    have HT5 := Aside0.mk hT5
                    have hz5 := hB5.size
                    clear hT5 hB5 b0 b1 b2
                    have K0 := blk_below HK0.out HB5.out
                    have b0 : w5.cell? ⟨gb, 0, none⟩ = some (.bool x.f0) := (blk_cell K0 0).trans rfl
                    have b1 : w5.cell? ⟨gb, 1, none⟩ = some (.string x.f1) := (blk_cell K0 1).trans rfl
                    have b2 : w5.cell? ⟨gb, 2, none⟩ = some (.int .i64 x.f2) := (blk_cell K0 2).trans rfl
                    clear K0
                    go_wp2_with fail
                    refine (find_yes HT5.out hx HM2.out HJ2.out).mono ?_
                    rintro e w6 ⟨rfl, hb6⟩
                    have HB6 := Aside0.mk (below_then HB5.out hz5 hb6)
                    have HT6 := Aside0.mk (HT5.out.below hb6)
                    clear hb6 b0 b1 b2
                    go_wp2_with fail
                    refine (len_any _ _ tb _ _ HT6.out).mono ?_
                    rintro e w' ⟨rfl, rfl⟩
                    go_wp2
                    go_ret
                    exact ⟨rfl, below_weaken HB0.out HB0.out.size HB6.out⟩
                  · have HP := Aside0.mk (show putL M x = M ++ [norm x] by rw [putL, if_neg hmem])
                    have HM := Aside0.mk hmem
                    have HJ := Aside0.mk (show M.length = M.idxOf (norm x) from (List.idxOf_eq_length hmem).symm)
                    have HM2 := Aside0.mk (show norm x ∈ M ++ [norm x] by simp)
                    have HJ2 := Aside0.mk (show M.length = (M ++ [norm x]).idxOf (norm x) by rw [List.idxOf_append, if_neg hmem]; simp)
                    clear hmem
                    have K0 := blk_below HK0.out HBj.out
                    have b0 : wr.cell? ⟨gb, 0, none⟩ = some (.bool x.f0) := (blk_cell K0 0).trans rfl
                    have b1 : wr.cell? ⟨gb, 1, none⟩ = some (.string x.f1) := (blk_cell K0 1).trans rfl
                    have b2 : wr.cell? ⟨gb, 2, none⟩ = some (.int .i64 x.f2) := (blk_cell K0 2).trans rfl
                    clear K0
                    go_wp2_with fail
                    refine (find_no HTj.out hx HM.out).mono ?_
                    rintro e w4 ⟨rfl, hb4⟩
                    have HB4 := Aside0.mk (below_then HBj.out hzj hb4)
                    have HT4 := Aside0.mk (HTj.out.below hb4)
                    have hz4 := HB4.out.size
                    clear hb4 b0 b1 b2
                    go_wp2_with fail
                    refine (len_any _ _ tb M _ HT4.out).mono ?_
                    rintro e w' ⟨rfl, rfl⟩
                    have K0 := blk_below HK0.out HB4.out
                    have b0 : w4.cell? ⟨gb, 0, none⟩ = some (.bool x.f0) := (blk_cell K0 0).trans rfl
                    have b1 : w4.cell? ⟨gb, 1, none⟩ = some (.string x.f1) := (blk_cell K0 1).trans rfl
                    have b2 : w4.cell? ⟨gb, 2, none⟩ = some (.int .i64 x.f2) := (blk_cell K0 2).trans rfl
                    clear K0
                    go_wp2_with fail
                    refine (put_to wb HT4.out HB4.out hz4 hx (by omega) HJ.out rfl).mono ?_
                    rintro e w5 ⟨rfl, hT5, hB5, _⟩
                    have HB5 := Aside0.mk hB5
                    rw [HP.out] at hT5
                    have HT5 := Aside0.mk hT5
                    have hz5 := hB5.size
                    clear hT5 hB5 b0 b1 b2
                    have K0 := blk_below HK0.out HB5.out
                    have b0 : w5.cell? ⟨gb, 0, none⟩ = some (.bool x.f0) := (blk_cell K0 0).trans rfl
                    have b1 : w5.cell? ⟨gb, 1, none⟩ = some (.string x.f1) := (blk_cell K0 1).trans rfl
                    have b2 : w5.cell? ⟨gb, 2, none⟩ = some (.int .i64 x.f2) := (blk_cell K0 2).trans rfl
                    clear K0
                    go_wp2_with fail
                    refine (find_yes HT5.out hx HM2.out HJ2.out).mono ?_
                    rintro e w6 ⟨rfl, hb6⟩
                    have HB6 := Aside0.mk (below_then HB5.out hz5 hb6)
                    have HT6 := Aside0.mk (HT5.out.below hb6)
                    clear hb6 b0 b1 b2
                    go_wp2_with fail
                    refine (len_any _ _ tb _ _ HT6.out).mono ?_
                    rintro e w' ⟨rfl, rfl⟩
                    have eM : ((M ++ [norm x]).length : Int) = (M.length : Int) + 1 := by simp
                    rw [eM]
                    clear eM
                    go_wp2
                    go_ret
                    exact ⟨rfl, below_weaken HB0.out HB0.out.size HB6.out⟩
end Go.Proofs.Ytfdjfkmgablmoaa.Tab
