/- The walk of SymtabPlays: for every list of values, every value and every number it returns true, and all that was there lies as it lay. No condition but that values are values. -/
import Derived.Test.YtfdjfkmgablmoaaRefs
namespace Go.Proofs.Ytfdjfkmgablmoaa.Tab
open Go.RowKit Go.Maps Go.Proofs.YtfdjfkmgablmoaaW.PrintWords Go.Proofs.Ytfdjfkmgablmoaa.PSymtabPlays

theorem fine_take {l : List S29} (hl : ∀ x ∈ l, Ok x) (k : Nat) (hk : k ≤ 200) : Fine (tabL (l.take k)) := by
  induction k with
  | zero => exact ⟨by simp [tabL], by simp [tabL]⟩
  | succ k ih =>
    have h := ih (by omega)
    rcases Nat.lt_or_ge k l.length with hlt | hge
    · rw [tabL_take hlt]
      have := tabL_len l k
      exact h.put (ok_of hl hlt) (by omega)
    · rw [List.take_of_length_le (by omega)]
      rw [List.take_of_length_le hge] at h
      exact h

set_option maxHeartbeats 8000000 in
set_option maxRecDepth 100000 in
theorem plays_walk (A : Option Addr) (cap : Nat) (l : List S29) (x : S29) (n : Int) (w : World) (hC : Kd.C k29 w A l.length l) (hl : ∀ x ∈ l, Ok x) (hx : Ok x) (_hn : (Lit.int .i64 n).wf = true) :
    Calls Try.prog 5 #[.slice A l.length cap, .agg #[.bool x.f0, .string x.f1, .int .i64 x.f2], .int .i64 n] w (ShownPost w) := by
  have hlen : l.length ≤ 9223372036854775807 := hC.2.1
  have HC := Aside0.mk hC
  have HL := Aside0.mk hl
  clear hC hl _hn
  go_enter Try.func5, Try.ntmps5
  go_wp2_with fail
  have HB0 := Aside0.mk (below_alloc (Below.refl w.heap.size w) (.cells #[.bool x.f0, .string x.f1, .int .i64 x.f2] 29))
  have HK0 := Aside0.mk (blk_new w (.cells #[.bool x.f0, .string x.f1, .int .i64 x.f2] 29))
  obtain ⟨gb, hgb⟩ : ∃ gb, gb = w.heap.size := ⟨_, rfl⟩
  rw [← hgb] at HK0 ⊢
  clear hgb
  generalize w.alloc (.cells #[.bool x.f0, .string x.f1, .int .i64 x.f2] 29) = wb at *
  refine (shown_any _).mono ?_
  rintro e w1 ⟨rfl, hb1⟩
  have HB1 := Aside0.mk hb1
  clear hb1
  go_wp2_with fail
  refine (new_any wb wb.heap.size _ HB1.out HB1.out.size).mono ?_
  rintro e w2 ⟨tb, rfl, hT2, hB2, _⟩
  have HB2 := Aside0.mk hB2
  have HT2 := Aside0.mk hT2
  clear hT2 hB2
  go_wp2_with fail
  go_loopw [9, 10] (fun v i wr => ∃ (k : Nat) (okT okX : Nat → Prop), k ≤ l.length ∧ k ≤ 200 ∧ i = .int .i64 k ∧ (∀ q, okT q → ¬ okX q) ∧ IsTab wr wb.heap.size okT tb (tabL (l.take k)) ∧ Kd.R k29 29 wr wb.heap.size okX v (tabL (l.take k)) ∧ Below wb.heap.size wb wr) (fun _ i _ => 200 - (intOf i).toNat)
  case atStart => exact ⟨0, _, fun _ => False, by omega, by omega, rfl, fun _ _ h => h, HT2.out, Kd.R_nil _ _ _ _ _, HB2.out⟩
  case round =>
    obtain ⟨k, okT, okX, hk1, hk2, rfl, hd, hT, hR, hB⟩ := hrel
    have HT := Aside0.mk hT
    have HR := Aside0.mk hR
    have HB := Aside0.mk hB
    have HD := Aside0.mk hd
    have hz := hB.size
    clear hT hB hR hd
    have hL := tabL_len l k
    have HF := Aside0.mk (fine_take HL.out k hk2)
    by_cases hlt : k < l.length ∧ k < 200
    · obtain ⟨h1, h2⟩ := hlt
      have HX := Aside0.mk (ok_of HL.out h1)
      have HS := Aside0.mk (tabL_take h1)
      obtain ⟨ad, rfl, c0, c1, c2⟩ := cells_at HC.out h1
      generalize rd_T29 l (k : Int) = y at *
      generalize tabL (l.take k) = L at *
      generalize htn : tabL (l.take (k + 1)) = L' at *
      have HN := Aside0.mk htn
      clear htn
      have d0 := pw_cell_below HB.out (pw_cell_below HB0.out c0)
      have d1 := pw_cell_below HB.out (pw_cell_below HB0.out c1)
      have d2 := pw_cell_below HB.out (pw_cell_below HB0.out c2)
      obtain ⟨kk, hput⟩ := (refput_eq HF.out HX.out).rounds
      rw [← HS.out] at hput
      have HPut := Aside0.mk hput
      clear hput
      go_wp2_with fail
      refine (put_any wb wb.heap.size okT tb L y _ HT.out HB.out hz HX.out (by omega)).mono ?_
      rintro e w4 ⟨rfl, hT4, hB4, _, hK4⟩
      have hR4 := Kd.R_kept (Kd.R_bound HR.out) hK4 (fun q hq h => HD.out q h hq.1)
      rw [← HS.out] at hT4
      have HT4 := Aside0.mk hT4.bound
      have HR4 := Aside0.mk hR4
      have HB4 := Aside0.mk hB4
      have hz4 := hB4.size
      clear hT4 hB4 hK4 hR4
      have d0 := pw_cell_below HB4.out (pw_cell_below HB0.out c0)
      have d1 := pw_cell_below HB4.out (pw_cell_below HB0.out c1)
      have d2 := pw_cell_below HB4.out (pw_cell_below HB0.out c2)
      obtain ⟨Av, cv, rfl⟩ := Kd.R_slice HR4.out
      go_wp2_with fail
      refine (lambrequinref02_Put.calls kk _ _ L y.f0 y.f1 y.f2 L' _ wb _ HB4.out HR4.out HPut.out).mono ?_
      rintro e w5 ⟨v5, rfl, hR5, hB5, hK5⟩
      have hT5 := HT4.out.kept hK5 (fun q hq h => by
        rcases hq.1 with g | g
        · exact HD.out q g h.1
        · have := h.2.2.1
          omega)
      have HT5 := Aside0.mk hT5
      have HR5 := Aside0.mk hR5
      have HB5 := Aside0.mk hB5
      obtain ⟨A5, c5, rfl⟩ := Kd.R_slice HR5.out
      clear hT5 hR5 hB5 hK5
      go_wp2_with fail
      refine (len_any _ _ tb L' _ HT5.out).mono ?_
      rintro e w' ⟨rfl, rfl⟩
      go_wp2
      go_roundw
      case rel =>
        refine ⟨k + 1, _, _, by omega, by omega, by go_num, ?_, by rw [HN.out]; exact HT5.out, by rw [HN.out]; exact HR5.out, HB5.out⟩
        rintro q ⟨hq, hq2, hq3, _⟩ h
        rcases h with h | h
        · rcases hq with g | g
          · exact HD.out q g h.1
          · have := h.2.2.1
            omega
        · omega
      case measure => simp [intOf]; omega
    · generalize tabL (l.take k) = L at *
      obtain ⟨Av, cv, rfl⟩ := Kd.R_slice HR.out
      have K0 := blk_below HK0.out HB.out
      have b0 : wr.cell? ⟨gb, 0, none⟩ = some (.bool x.f0) := (blk_cell K0 0).trans rfl
      have b1 : wr.cell? ⟨gb, 1, none⟩ = some (.string x.f1) := (blk_cell K0 1).trans rfl
      have b2 : wr.cell? ⟨gb, 2, none⟩ = some (.int .i64 x.f2) := (blk_cell K0 2).trans rfl
      obtain ⟨kk, hfind⟩ := (find_eq HF.out hx).rounds
      have HFind := Aside0.mk hfind
      clear K0 hfind
      by_cases h1 : k < l.length
      all_goals
        go_wp2_with fail
        refine (find_any _ _ tb L x _ HT.out hx).mono ?_
        rintro e w4 ⟨rfl, hb4⟩
        have HB4 := Aside0.mk (below_then HB.out hz hb4)
        have HT4 := Aside0.mk (HT.out.below hb4)
        have HR4 := Aside0.mk (Kd.R_below HR.out hb4)
        have hz4 := HB4.out.size
        clear hb4 b0 b1 b2
        have K0 := blk_below HK0.out HB4.out
        have b0 : w4.cell? ⟨gb, 0, none⟩ = some (.bool x.f0) := (blk_cell K0 0).trans rfl
        have b1 : w4.cell? ⟨gb, 1, none⟩ = some (.string x.f1) := (blk_cell K0 1).trans rfl
        have b2 : w4.cell? ⟨gb, 2, none⟩ = some (.int .i64 x.f2) := (blk_cell K0 2).trans rfl
        clear K0
        go_wp2_with fail
        refine (lambrequinref02_Find.calls kk Av cv L x.f0 x.f1 x.f2 _ _ _ (Kd.R_reads' HR4.out).2.2 (Kd.R_reads' HR4.out).2.1 HFind.out).mono ?_
        rintro e w5 ⟨rfl, hb5⟩
        have HB5 := Aside0.mk (below_then HB4.out hz4 hb5)
        have HT5 := Aside0.mk (HT4.out.below hb5)
        have HR5 := Aside0.mk (Kd.R_below HR4.out hb5)
        have hz5 := HB5.out.size
        clear hb5 b0 b1 b2
        by_cases hin : 0 ≤ n ∧ n < L.length
        · have hd : decide (0 ≤ n ∧ n < (L.length : Int)) = true := by simpa using hin
          have hat : atL L n = rd_T29 L n := by rw [atL, if_pos hin]
          obtain ⟨hin1, hin2⟩ := hin
          go_wp2_with fail
          refine (at_any _ _ tb L n _ HT5.out).mono ?_
          rintro e w6 ⟨rfl, hb6⟩
          rw [hd, hat]
          have HB6 := Aside0.mk (below_then HB5.out hz5 hb6)
          have HR6 := Aside0.mk (Kd.R_below HR5.out hb6)
          have hz6 := HB6.out.size
          obtain ⟨ad, rfl, a0, a1, a2⟩ := at_T29 (Kd.R_reads' HR6.out).2.2 n hin1 hin2
          generalize rd_T29 L n = z at *
          clear hb6 hd hat
          have e0 := pw_cell_below (below_alloc (Below.refl w6.heap.size w6) (.cells #[.bool z.f0, .string z.f1, .int .i64 z.f2] 29)) a0
          have e1 := pw_cell_below (below_alloc (Below.refl w6.heap.size w6) (.cells #[.bool z.f0, .string z.f1, .int .i64 z.f2] 29)) a1
          have e2 := pw_cell_below (below_alloc (Below.refl w6.heap.size w6) (.cells #[.bool z.f0, .string z.f1, .int .i64 z.f2] 29)) a2
          go_wp2_with fail
          go_quiet (fail)
          go_wp2
          go_ret
          refine ⟨rfl, ?_⟩
          have hfin := below_weaken HB0.out HB0.out.size HB6.out
          exact pw_below_drewN (below_alloc hfin _) _
        · have HC1 := Aside0.mk (show n < 0 ∨ (L.length : Int) ≤ n by omega)
          clear hin
          rcases HC1.out with hneg | hge
          · go_wp2_with fail
            refine (at_out _ _ tb L n _ HT5.out HC1.out).mono ?_
            rintro e w6 ⟨rfl, hb6⟩
            have HB6 := Aside0.mk (below_then HB5.out hz5 hb6)
            have hz6 := HB6.out.size
            clear hb6
            have hd2 : decide (0 ≤ n) = false := by simpa using hneg
            go_wp2_with fail
            go_quiet (fail)
            go_wp2
            go_ret
            refine ⟨rfl, ?_⟩
            have hfin := below_weaken HB0.out HB0.out.size HB6.out
            exact pw_below_drewN (below_alloc hfin _) _
          · by_cases hneg : n < 0
            · omega
            · have hnn : 0 ≤ n := by omega
              go_wp2_with fail
              refine (at_out _ _ tb L n _ HT5.out HC1.out).mono ?_
              rintro e w6 ⟨rfl, hb6⟩
              have HB6 := Aside0.mk (below_then HB5.out hz5 hb6)
              have hz6 := HB6.out.size
              clear hb6
              have hd2 : decide (n < (L.length : Int)) = false := by simpa using hge
              go_wp2_with fail
              go_quiet (fail)
              go_wp2
              go_ret
              refine ⟨rfl, ?_⟩
              have hfin := below_weaken HB0.out HB0.out.size HB6.out
              exact pw_below_drewN (below_alloc hfin _) _
end Go.Proofs.Ytfdjfkmgablmoaa.Tab
