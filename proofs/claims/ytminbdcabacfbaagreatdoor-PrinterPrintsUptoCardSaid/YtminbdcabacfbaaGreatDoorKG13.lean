/- lambrequinref07.May. lambrequinref07.Program. lambrequinlaw07.few: whether a program is not too great: it ends, whatever it says. lambrequinlaw07.PrinterPrints. -/
import Derived.Deep.RegionHeld3
import Derived.Test.YtminbdcabacfbaaGreatDoorKG12
namespace Go.Proofs.YtminbdcabacfbaaGreatDoor.V
set_option linter.unusedVariables false
set_option linter.unusedSimpArgs false
open Go.RowKit

theorem mayP_noD {ds : List DeclL} {rs : List RuleL} {x : DeclL} (hx : x ∈ ds) (h : mayD x = false) : mayP ds rs = false := by
  have h1 : ds.all mayD = false := by
    rw [List.all_eq_false]
    exact ⟨x, hx, by rw [h]; simp⟩
  unfold mayP
  rw [h1]
  simp
theorem mayP_noR {ds : List DeclL} {rs : List RuleL} {x : RuleL} (hx : x ∈ rs) (h : mayR x = false) : mayP ds rs = false := by
  have h1 : rs.all mayR = false := by
    rw [List.all_eq_false]
    exact ⟨x, hx, by rw [h]; simp⟩
  unfold mayP
  rw [h1]
  simp
theorem mayR_noA {x : RuleL} (h : mayA x.h = false) : mayR x = false := by unfold mayR; rw [h]; rfl
theorem mayR_noN {x : RuleL} (h : 8 < x.b.length) : mayR x = false := by unfold mayR; rw [decide_eq_false (show ¬ x.b.length ≤ 8 by omega)]; simp
theorem mayR_noL {x : RuleL} {l : LitL} (hl : l ∈ x.b) (h : mayL l = false) : mayR x = false := by
  have h1 : x.b.all mayL = false := by
    rw [List.all_eq_false]
    exact ⟨l, hl, by rw [h]; simp⟩
  unfold mayR
  rw [h1]
  simp
theorem mayR_yes {x : RuleL} (h : mayA x.h = true) (hn : x.b.length ≤ 8) (hl : x.b.all mayL = true) : mayR x = true := by unfold mayR; rw [h, hl, decide_eq_true hn]; rfl
theorem mayP_yes {ds : List DeclL} {rs : List RuleL} (h1 : ds.length ≤ 400) (h2 : rs.length ≤ 400) (h3 : ds.all mayD = true) (h4 : rs.all mayR = true) : mayP ds rs = true := by unfold mayP; rw [h3, h4, decide_eq_true h1, decide_eq_true h2]; rfl
theorem mayP_noN {ds : List DeclL} {rs : List RuleL} (h : 400 < ds.length) : mayP ds rs = false := by unfold mayP; rw [decide_eq_false (show ¬ ds.length ≤ 400 by omega)]; rfl
theorem mayP_noM {ds : List DeclL} {rs : List RuleL} (h : 400 < rs.length) : mayP ds rs = false := by unfold mayP; rw [decide_eq_false (show ¬ rs.length ≤ 400 by omega)]; simp

set_option maxRecDepth 100000 in
set_option maxHeartbeats 32000000 in
theorem rfMay_calls (A B : Option Addr) (n c m d : Nat) (ds : List DeclL) (rs : List RuleL) (w : World) (hn : n = ds.length) (hm : m = rs.length) (hD : DeclsRd w A ds) (hR : RulesRd w B rs) (hod : ∀ d ∈ ds, DeclSz d) (hor : ∀ r ∈ rs, RuleSz r) :
    Calls Tryz.prog 19 #[.agg #[.slice A n c, .slice B m d]] w fun e w' => e = .returned (.bool (mayP ds rs)) ∧ Below w.heap.size w w' := by
  have hbl := (Below.refl w.heap.size w).alloc (Nat.le_refl _) (.cells #[.slice A n c, .slice B m d] 36)
  have hnw := heap_alloc_new w (.cells #[.slice A n c, .slice B m d] 36)
  have HB0 := Lib.hid hbl
  have HD := Lib.hid (hD.below hbl)
  have HR := Lib.hid (hR.below hbl)
  have HOD := Lib.hid hod
  have HOR := Lib.hid hor
  have HN := Lib.hid hn
  have HM := Lib.hid hm
  have hw0g : ∃ w0, w.alloc (.cells #[.slice A n c, .slice B m d] 36) = w0 := ⟨_, rfl⟩
  have hc0 := cell_of_row _ _ 0 _ _ _ hnw
  have hc1 := cell_of_row _ _ 1 _ _ _ hnw
  have HC0 := Lib.hid hc0
  have HC1 := Lib.hid hc1
  by_cases hn4 : n ≤ 400
  · by_cases hm4 : m ≤ 400
    · have g1 : decide (400 < (n : Int)) = false := decide_eq_false (by omega)
      have g2 : decide (400 < (m : Int)) = false := decide_eq_false (by omega)
      have HN4 := Lib.hid hn4
      have HM4 := Lib.hid hm4
      clear hbl hnw hD hR hod hor hn hm hn4 hm4
      go_enter Tryz.func19, Tryz.ntmps19
      go_wp2_with fail
      obtain ⟨w0, hw0⟩ := hw0g
      rw [hw0] at HB0 HD HR HC0 HC1 ⊢
      clear hw0 hc0 hc1 g1 g2
      go_loopw [3] (fun i wr => ∃ k : Nat, k ≤ n ∧ i = .int .i64 (k : Int) ∧ (ds.take k).all mayD = true ∧ Below w0.heap.size w0 wr) (fun i _ => n + 1 - (intOf i).toNat)
      case atStart => exact ⟨0, Nat.zero_le _, rfl, rfl, Below.refl _ _⟩
      case round =>
        obtain ⟨k, hk, rfl, hall, hb⟩ := hrel
        have HB := Lib.hid hb
        have HAL := Lib.hid hall
        have a0 := cell_below hb HC0.out
        have hn4 := HN4.out
        by_cases hlt : k < n
        · have HLT := Lib.hid hlt
          have hd : decide ((k : Int) < (n : Int)) = true := decide_eq_true (by omega)
          obtain ⟨t, hx⟩ : ∃ t, ds[k]? = some t := ⟨_, List.getElem?_eq_getElem (by rw [← HN.out]; exact hlt)⟩
          obtain ⟨g, rfl, hc⟩ := HD.out k t hx
          have hc' := hc.below hb
          have HX := Lib.hid hx
          have hsz := HOD.out t (List.mem_of_getElem? hx)
          have p0 := hc'.c0
          have p1 := hc'.c1
          have hbx := (Below.refl wr.heap.size wr).alloc (Nat.le_refl _) (.cells #[.string (bs t.p), .int .i64 t.n] 86)
          have HBX := Lib.hid hbx
          have HNX := Lib.hid (heap_alloc_new wr (.cells #[.string (bs t.p), .int .i64 t.n] 86))
          have HPL := Lib.hid (fun (W : World) => (show Calls Tryz.prog 49 #[.string (bs t.p)] W (fun e w' => e = .returned (.bool (plainL t.p)) ∧ Below W.heap.size W w') from refPlain_calls (bs t.p) W (by rw [bs_size]; exact hsz)))
          have HSZ := Lib.hid (show (bs t.p).size = t.p.length from bs_size t.p)
          have hmd : mayD t = (plainL t.p && decide (t.p.length ≤ 32) && decide (0 ≤ t.n) && decide (t.n ≤ 6)) := rfl
          have e0 := cell_of_row _ _ 0 _ _ _ HNX.out
          obtain ⟨z, hz⟩ : ∃ z, bs t.p = z := ⟨_, rfl⟩
          rw [hz] at p0 HBX HNX HPL HSZ e0
          rw [← HSZ.out] at hmd
          have HMD := Lib.hid hmd
          clear hb hc hc' hx hall hsz hbx hz hmd
          cases hp : plainL t.p with
          | false =>
            have HP := Lib.hid hp
            have HE := Lib.hid (mayP_noD (rs := rs) (List.mem_of_getElem? HX.out) (by rw [HMD.out, hp]; rfl))
            clear hp
            go_wp2_with (go_at_call 49; ((with_reducible refine (HPL.out _).mono ?_); rw [HP.out]; rintro e w2 ⟨rfl, hb2⟩; have HB2 := Lib.hid (HBX.out.trans (hb2.mono HBX.out.size)); have e0 := cell_below hb2 (cell_of_row _ _ 0 _ _ _ HNX.out); have e1 := cell_below hb2 (cell_of_row _ _ 1 _ _ _ HNX.out); clear hb2))
            go_ret
            exact ⟨by rw [HE.out]; rfl, HB0.out.trans ((HB.out.trans (HB2.out.mono HB.out.size)).mono HB0.out.size)⟩
          | true =>
            have HP := Lib.hid hp
            clear hp
            by_cases h1 : z.size ≤ 32
            · have f1 : decide (32 < (z.size : Int)) = false := decide_eq_false (by omega)
              by_cases h2 : 0 ≤ t.n
              · have f2 : decide (t.n < 0) = false := decide_eq_false (by omega)
                by_cases h3 : t.n ≤ 6
                · have f3 : decide (6 < t.n) = false := decide_eq_false (by omega)
                  have HQ := Lib.hid (show mayD t = true by rw [HMD.out, HP.out, decide_eq_true h1, decide_eq_true h2, decide_eq_true h3]; rfl)
                  clear h1 h2 h3
                  go_wp2_with (go_at_call 49; ((with_reducible refine (HPL.out _).mono ?_); rw [HP.out]; rintro e w2 ⟨rfl, hb2⟩; have HB2 := Lib.hid (HBX.out.trans (hb2.mono HBX.out.size)); have e0 := cell_below hb2 (cell_of_row _ _ 0 _ _ _ HNX.out); have e1 := cell_below hb2 (cell_of_row _ _ 1 _ _ _ HNX.out); clear hb2))
                  go_roundw
                  case rel => exact ⟨k + 1, HLT.out, by simp, all_up mayD HX.out HAL.out HQ.out, HB.out.trans (HB2.out.mono HB.out.size)⟩
                  case measure => simp [intOf]; have := HLT.out; omega
                · have f3 : decide (6 < t.n) = true := decide_eq_true (by omega)
                  have HE := Lib.hid (mayP_noD (rs := rs) (List.mem_of_getElem? HX.out) (by rw [HMD.out, decide_eq_false h3]; simp))
                  clear h1 h2 h3
                  go_wp2_with (go_at_call 49; ((with_reducible refine (HPL.out _).mono ?_); rw [HP.out]; rintro e w2 ⟨rfl, hb2⟩; have HB2 := Lib.hid (HBX.out.trans (hb2.mono HBX.out.size)); have e0 := cell_below hb2 (cell_of_row _ _ 0 _ _ _ HNX.out); have e1 := cell_below hb2 (cell_of_row _ _ 1 _ _ _ HNX.out); clear hb2))
                  go_ret
                  exact ⟨by rw [HE.out]; rfl, HB0.out.trans ((HB.out.trans (HB2.out.mono HB.out.size)).mono HB0.out.size)⟩
              · have f2 : decide (t.n < 0) = true := decide_eq_true (by omega)
                have HE := Lib.hid (mayP_noD (rs := rs) (List.mem_of_getElem? HX.out) (by rw [HMD.out, decide_eq_false h2]; simp))
                clear h1 h2
                go_wp2_with (go_at_call 49; ((with_reducible refine (HPL.out _).mono ?_); rw [HP.out]; rintro e w2 ⟨rfl, hb2⟩; have HB2 := Lib.hid (HBX.out.trans (hb2.mono HBX.out.size)); have e0 := cell_below hb2 (cell_of_row _ _ 0 _ _ _ HNX.out); have e1 := cell_below hb2 (cell_of_row _ _ 1 _ _ _ HNX.out); clear hb2))
                go_ret
                exact ⟨by rw [HE.out]; rfl, HB0.out.trans ((HB.out.trans (HB2.out.mono HB.out.size)).mono HB0.out.size)⟩
            · have f1 : decide (32 < (z.size : Int)) = true := decide_eq_true (by omega)
              have HE := Lib.hid (mayP_noD (rs := rs) (List.mem_of_getElem? HX.out) (by rw [HMD.out, decide_eq_false h1]; simp))
              clear h1
              go_wp2_with (go_at_call 49; ((with_reducible refine (HPL.out _).mono ?_); rw [HP.out]; rintro e w2 ⟨rfl, hb2⟩; have HB2 := Lib.hid (HBX.out.trans (hb2.mono HBX.out.size)); have e0 := cell_below hb2 (cell_of_row _ _ 0 _ _ _ HNX.out); have e1 := cell_below hb2 (cell_of_row _ _ 1 _ _ _ HNX.out); clear hb2))
              go_ret
              exact ⟨by rw [HE.out]; rfl, HB0.out.trans ((HB.out.trans (HB2.out.mono HB.out.size)).mono HB0.out.size)⟩
        · have hkn : n = k := by omega
          subst hkn
          have hd : decide ((n : Int) < (n : Int)) = false := decide_eq_false (by omega)
          have hall2 : ds.take n = ds := List.take_of_length_le (by rw [← HN.out]; exact Nat.le_refl _)
          rw [hall2] at hall
          have HALD := Lib.hid hall
          have HR2 := Lib.hid (HR.out.below hb)
          have HC2 := Lib.hid (cell_below hb HC1.out)
          obtain ⟨w1, hw1⟩ : ∃ w1, w1 = wr := ⟨_, rfl⟩
          subst hw1
          clear hb hlt hk hall hall2 HR HD HAL
          go_wp2_with fail
          clear a0 hd
          go_loopw [5] (fun i wq => ∃ j : Nat, j ≤ m ∧ i = .int .i64 (j : Int) ∧ (rs.take j).all mayR = true ∧ Below w1.heap.size w1 wq) (fun i _ => m + 1 - (intOf i).toNat)
          case atStart => exact ⟨0, Nat.zero_le _, rfl, rfl, Below.refl _ _⟩
          case round =>
            obtain ⟨j, hj, rfl, hall, hb⟩ := hrel
            have HBq := Lib.hid hb
            have HAL := Lib.hid hall
            have a1 := cell_below hb HC2.out
            have hm4 := HM4.out
            have hbase := Lib.hid (HB0.out.trans ((HB.out.trans (hb.mono HB.out.size)).mono HB0.out.size))
            by_cases hlt : j < m
            · have HLT := Lib.hid hlt
              have hd : decide ((j : Int) < (m : Int)) = true := decide_eq_true (by omega)
              obtain ⟨t, hx⟩ : ∃ t, rs[j]? = some t := ⟨_, List.getElem?_eq_getElem (by rw [← HM.out]; exact hlt)⟩
              obtain ⟨g, rfl, hh⟩ := HR2.out j t hx
              have hh2 := hh.below hb
              obtain ⟨⟨Aa, na, ca, hna, hca, q0, q1, htr⟩, Bb, mb, cb, hnb, hcb, q2, hlr⟩ := hh2
              have hsz := HOR.out t (List.mem_of_getElem? hx)
              have HX := Lib.hid hx
              have hbx := (Below.refl wr.heap.size wr).alloc (Nat.le_refl _) (.cells #[.string (bs t.h.p), .slice Aa na ca, .slice Bb mb cb] 50)
              have HBX := Lib.hid hbx
              have HNX := Lib.hid (heap_alloc_new wr (.cells #[.string (bs t.h.p), .slice Aa na ca, .slice Bb mb cb] 50))
              have HTX := Lib.hid (htr.below hbx)
              have HLX := Lib.hid (hlr.below hbx)
              have HMA := Lib.hid (fun (W : World) (h : TermsRd W Aa t.h.a) => rfMayA_calls Aa na ca t.h W hna h hsz.1)
              have HLS := Lib.hid hsz.2.2
              have HNB := Lib.hid hnb
              have d0 := cell_of_row _ _ 0 _ _ _ HNX.out
              have d1 := cell_of_row _ _ 1 _ _ _ HNX.out
              have hmb : mb < 1000000000 := by rw [hnb]; exact hsz.2.1
              clear hb hx hh hall hsz hbx htr hlr hna hca hnb hcb
              cases hp : mayA t.h with
              | false =>
                have HP := Lib.hid hp
                have HE := Lib.hid (mayP_noR (ds := ds) (List.mem_of_getElem? HX.out) (mayR_noA hp))
                clear hp
                go_wp2_with (go_at_call 50; ((with_reducible refine (HMA.out _ HTX.out).mono ?_); rw [HP.out]; rintro e w2 ⟨rfl, hb2⟩; have HB2 := Lib.hid (HBX.out.trans (hb2.mono HBX.out.size)); have HL2 := Lib.hid (HLX.out.below hb2); have HN2 := Lib.hid ((hb2.block _ (Array.getElem?_eq_some_iff.1 HNX.out).1).trans HNX.out); have e2 := cell_of_row _ _ 2 _ _ _ HN2.out; clear hb2))
                go_ret
                exact ⟨by rw [HE.out]; rfl, hbase.out.trans (HB2.out.mono hbase.out.size)⟩
              | true =>
                have HP := Lib.hid hp
                clear hp
                by_cases h8 : mb ≤ 8
                · have f8 : decide (8 < (mb : Int)) = false := decide_eq_false (by omega)
                  have H8 := Lib.hid h8
                  clear h8
                  go_wp2_with (go_at_call 50; ((with_reducible refine (HMA.out _ HTX.out).mono ?_); rw [HP.out]; rintro e w2 ⟨rfl, hb2⟩; have HB2 := Lib.hid (HBX.out.trans (hb2.mono HBX.out.size)); have HL2 := Lib.hid (HLX.out.below hb2); have HN2 := Lib.hid ((hb2.block _ (Array.getElem?_eq_some_iff.1 HNX.out).1).trans HNX.out); have e2 := cell_of_row _ _ 2 _ _ _ HN2.out; clear hb2))
                  obtain ⟨v0, hv0⟩ : ∃ v0, v0 = w2 := ⟨_, rfl⟩
                  subst hv0
                  clear a1 q0 q1 q2 d0 d1 e2
                  go_loopw [7] (fun i wq => ∃ l : Nat, l ≤ mb ∧ i = .int .i64 (l : Int) ∧ (t.b.take l).all mayL = true ∧ Below v0.heap.size v0 wq) (fun i _ => mb + 1 - (intOf i).toNat)
                  case atStart => exact ⟨0, Nat.zero_le _, rfl, rfl, Below.refl _ _⟩
                  case round =>
                    obtain ⟨l, hl, rfl, hall, hb⟩ := hrel
                    have HQ := Lib.hid hb
                    have HAX := Lib.hid hall
                    have f2 := cell_below hb (cell_of_row _ _ 2 _ _ _ HN2.out)
                    have HBase := Lib.hid (hbase.out.trans ((HB2.out.trans (hb.mono HB2.out.size)).mono hbase.out.size))
                    by_cases hjlt : l < mb
                    · have HJ := Lib.hid hjlt
                      have hdj : decide ((l : Int) < (mb : Int)) = true := decide_eq_true (by omega)
                      obtain ⟨x, hx⟩ : ∃ x, t.b[l]? = some x := ⟨_, List.getElem?_eq_getElem (by rw [← HNB.out]; exact hjlt)⟩
                      obtain ⟨b, rfl, hh⟩ := HL2.out l x hx
                      obtain ⟨kk, Ab, nb, cbb, y1, y2, y3, y4, x0, x1, x2, x3, x4, x5, x6, x7, x8, x9, x10, x11, x12, x13⟩ := (hh.below hb).open
                      have HXL := Lib.hid hx
                      have HML := Lib.hid (show Calls Tryz.prog 51 _ wr (fun e w' => e = .returned (.bool (mayL x)) ∧ Below wr.heap.size wr w') from rfMayL_calls kk Ab nb cbb x wr y1 y2 y4 (HLS.out x (List.mem_of_getElem? hx)))
                      clear hb hh hx hall y1 y2 y3 y4
                      cases hv : mayL x with
                      | true =>
                        have HV := Lib.hid hv
                        clear hv
                        go_wp2_with (go_at_call 51; ((with_reducible refine (HML.out).mono ?_); rw [HV.out]; rintro e w3 ⟨rfl, hb3⟩; have HB3 := Lib.hid (HQ.out.trans (hb3.mono HQ.out.size)); clear hb3))
                        go_roundw
                        case rel => exact ⟨l + 1, HJ.out, by simp, all_up mayL HXL.out HAX.out HV.out, HB3.out⟩
                        case measure => simp [intOf]; have := HJ.out; omega
                      | false =>
                        have HV := Lib.hid hv
                        have HE := Lib.hid (mayP_noR (ds := ds) (List.mem_of_getElem? HX.out) (mayR_noL (List.mem_of_getElem? HXL.out) hv))
                        clear hv
                        go_wp2_with (go_at_call 51; ((with_reducible refine (HML.out).mono ?_); rw [HV.out]; rintro e w3 ⟨rfl, hb3⟩; have HB3 := Lib.hid (HBase.out.trans (hb3.mono HBase.out.size)); clear hb3))
                        go_ret
                        exact ⟨by rw [HE.out]; rfl, HB3.out⟩
                    · have hjn : mb = l := by omega
                      subst hjn
                      have hdj : decide ((mb : Int) < (mb : Int)) = false := decide_eq_false (by omega)
                      have hall2 : t.b.take mb = t.b := List.take_of_length_le (by rw [← HNB.out]; exact Nat.le_refl _)
                      rw [hall2] at hall
                      have HYES := Lib.hid (mayR_yes HP.out (by rw [← HNB.out]; exact H8.out) hall)
                      clear hb hjlt hl hall hall2
                      go_wp2_with fail
                      go_roundw
                      case rel => exact ⟨j + 1, HLT.out, by simp, all_up mayR HX.out HAL.out HYES.out, HBq.out.trans ((HB2.out.trans (HQ.out.mono HB2.out.size)).mono HBq.out.size)⟩
                      case measure => simp [intOf]; have := HLT.out; omega
                · have f8 : decide (8 < (mb : Int)) = true := decide_eq_true (by omega)
                  have HE := Lib.hid (mayP_noR (ds := ds) (List.mem_of_getElem? HX.out) (mayR_noN (by rw [← HNB.out]; omega)))
                  clear h8
                  go_wp2_with (go_at_call 50; ((with_reducible refine (HMA.out _ HTX.out).mono ?_); rw [HP.out]; rintro e w2 ⟨rfl, hb2⟩; have HB2 := Lib.hid (HBX.out.trans (hb2.mono HBX.out.size)); have HL2 := Lib.hid (HLX.out.below hb2); have HN2 := Lib.hid ((hb2.block _ (Array.getElem?_eq_some_iff.1 HNX.out).1).trans HNX.out); have e2 := cell_of_row _ _ 2 _ _ _ HN2.out; clear hb2))
                  go_ret
                  exact ⟨by rw [HE.out]; rfl, hbase.out.trans (HB2.out.mono hbase.out.size)⟩
            · have hjn : m = j := by omega
              subst hjn
              have hd : decide ((m : Int) < (m : Int)) = false := decide_eq_false (by omega)
              have hall2 : rs.take m = rs := List.take_of_length_le (by rw [← HM.out]; exact Nat.le_refl _)
              rw [hall2] at hall
              have HE := Lib.hid (mayP_yes (by rw [← HN.out]; exact HN4.out) (by rw [← HM.out]; exact HM4.out) HALD.out hall)
              clear hb hlt hj hall hall2
              go_wp2_with fail
              go_ret
              exact ⟨by rw [HE.out]; rfl, hbase.out⟩
    · have g1 : decide (400 < (n : Int)) = false := decide_eq_false (by omega)
      have g2 : decide (400 < (m : Int)) = true := decide_eq_true (by omega)
      have HE := Lib.hid (mayP_noM (ds := ds) (rs := rs) (by rw [← hm]; omega))
      clear hbl hnw hD hR hod hor hn hm hn4 hm4
      go_enter Tryz.func19, Tryz.ntmps19
      go_wp2_with fail
      go_ret
      exact ⟨by rw [HE.out]; rfl, HB0.out⟩
  · have g1 : decide (400 < (n : Int)) = true := decide_eq_true (by omega)
    have HE := Lib.hid (mayP_noN (ds := ds) (rs := rs) (by rw [← hn]; omega))
    clear hbl hnw hD hR hod hor hn hm hn4
    go_enter Tryz.func19, Tryz.ntmps19
    go_wp2_with fail
    go_ret
    exact ⟨by rw [HE.out]; rfl, HB0.out⟩
end Go.Proofs.YtminbdcabacfbaaGreatDoor.V

namespace Go.Proofs.YtminbdcabacfbaaGreatDoor.V
set_option linter.unusedVariables false
set_option linter.unusedSimpArgs false
open Go.RowKit

set_option maxRecDepth 100000 in
set_option maxHeartbeats 16000000 in
theorem rfProg_calls (A B : Option Addr) (n c m d : Nat) (ds : List DeclL) (rs : List RuleL) (w : World) (hn : n = ds.length) (hm : m = rs.length) (hD : DeclsRd w A ds) (hR : RulesRd w B rs) (hod : ∀ d ∈ ds, DeclFit d) (hor : ∀ r ∈ rs, RuleOk' r ∧ wR r ≤ 1000000000) (hbig : (prgT ds rs).length ≤ 140737488355328) (hn2 : n ≤ 1000000000) (hm2 : m ≤ 1000000000) :
    Calls Tryz.prog 17 #[.agg #[.slice A n c, .slice B m d]] w fun e w' => e = .returned (.string (bs (prgT ds rs))) ∧ Below w.heap.size w w' := by
  have hbl := (Below.refl w.heap.size w).alloc (Nat.le_refl _) (.cells #[.slice A n c, .slice B m d] 36)
  have hnw := heap_alloc_new w (.cells #[.slice A n c, .slice B m d] 36)
  have HB0 := Lib.hid hbl
  have HD := Lib.hid (hD.below hbl)
  have HR := Lib.hid (hR.below hbl)
  have HOD := Lib.hid hod
  have HOR := Lib.hid hor
  have HN := Lib.hid hn
  have HM := Lib.hid hm
  rw [prgT_eq] at hbig
  rw [prgT_eq]
  have HBIG := Lib.hid hbig
  have hw0g : ∃ w0, w.alloc (.cells #[.slice A n c, .slice B m d] 36) = w0 := ⟨_, rfl⟩
  have hc0 := cell_of_row _ _ 0 _ _ _ hnw
  have hc1 := cell_of_row _ _ 1 _ _ _ hnw
  have HC0 := Lib.hid hc0
  have HC1 := Lib.hid hc1
  clear hbl hnw hD hR hod hor hn hm hbig hc0 hc1
  go_enter Tryz.func17, Tryz.ntmps17
  go_wp2_with fail
  obtain ⟨w0, hw0⟩ := hw0g
  rw [hw0] at HB0 HD HR HC0 HC1 ⊢
  clear hw0
  go_loopw [3, 4] (fun o i wr => ∃ k : Nat, k ≤ n ∧ i = .int .i64 (k : Int) ∧ o = .string (bs ((ds.take k).flatMap dT)) ∧ Below w0.heap.size w0 wr) (fun _ i _ => n + 1 - (intOf i).toNat)
  case atStart => exact ⟨0, Nat.zero_le _, rfl, rfl, Below.refl _ _⟩
  case round =>
    obtain ⟨k, hk, rfl, rfl, hb⟩ := hrel
    have HB := Lib.hid hb
    have a0 := cell_below hb HC0.out
    by_cases hlt : k < n
    · have HLT := Lib.hid hlt
      have hd : decide ((k : Int) < (n : Int)) = true := decide_eq_true (by omega)
      obtain ⟨t, hx⟩ : ∃ t, ds[k]? = some t := ⟨_, List.getElem?_eq_getElem (by rw [← HN.out]; exact hlt)⟩
      obtain ⟨g, rfl, hc⟩ := HD.out k t hx
      have hc' := hc.below hb
      have hsn := flat_snoc dT hx
      have hle := flat_le dT ds (k + 1)
      have hbg := HBIG.out
      rw [List.length_append] at hbg
      have hft := HOD.out t (List.mem_of_getElem? hx)
      have hdt : dT t = t.p ++ [47] ++ Lib.itoa t.n ++ [46, 10] := by simp [dT, declT]
      rw [hsn, hdt] at hle
      simp only [List.length_append] at hle
      have b1 := add_bs ((ds.take k).flatMap dT) t.p (by omega)
      have b2 := add_bs ((ds.take k).flatMap dT ++ t.p) [47] (by simp only [List.length_append]; omega)
      have b3 := add_bs ((ds.take k).flatMap dT ++ t.p ++ [47]) (Lib.itoa t.n) (by simp only [List.length_append]; omega)
      have b4 := add_bs ((ds.take k).flatMap dT ++ t.p ++ [47] ++ Lib.itoa t.n) [46, 10] (by simp only [List.length_append]; omega)
      have he : (ds.take k).flatMap dT ++ t.p ++ [47] ++ Lib.itoa t.n ++ [46, 10] = (ds.take (k + 1)).flatMap dT := by rw [hsn, hdt]; simp
      rw [he] at b4
      obtain ⟨F4, hF4⟩ : ∃ F, bs ((ds.take (k + 1)).flatMap dT) = F := ⟨_, rfl⟩
      obtain ⟨F3, hF3⟩ : ∃ F, bs ((ds.take k).flatMap dT ++ t.p ++ [47] ++ Lib.itoa t.n) = F := ⟨_, rfl⟩
      obtain ⟨F2, hF2⟩ : ∃ F, bs ((ds.take k).flatMap dT ++ t.p ++ [47]) = F := ⟨_, rfl⟩
      obtain ⟨F1, hF1⟩ : ∃ F, bs ((ds.take k).flatMap dT ++ t.p) = F := ⟨_, rfl⟩
      obtain ⟨X, hX⟩ : ∃ F, bs ((ds.take k).flatMap dT) = F := ⟨_, rfl⟩
      obtain ⟨E, hE⟩ : ∃ E, bs (Lib.itoa t.n) = E := ⟨_, rfl⟩
      rw [hF4, hF3] at b4
      rw [hF3, hF2, hE] at b3
      rw [hF2, hF1] at b2
      rw [hF1, hX] at b1
      rw [hX]
      have c2 : ∀ W, (Op.stringOp .add F1 ⟨#[47]⟩).run Tryz.prog W = .ok (.string F2) W := b2
      have c4 : ∀ W, (Op.stringOp .add F3 ⟨#[46, 10]⟩).run Tryz.prog W = .ok (.string F4) W := b4
      have HZ := Lib.hid (show Value.string F4 = .string (bs ((ds.take (k + 1)).flatMap dT)) by rw [hF4])
      have HC := Lib.hid (fun (W : World) => (show Calls Tryz.prog 43 #[.int .i64 t.n] W (fun e w' => e = .returned (.string E) ∧ Below W.heap.size W w') from by rw [← hE]; exact fig_calls t.n.natAbs t.n W (Nat.le_refl _) hft.1 hft.2))
      have p0 := hc'.c0
      have p1 := hc'.c1
      have K := fun (W : World) (hb : Below wr.heap.size wr W) => (show World.cell? W ⟨w.heap.size, 0, none⟩ = some (.slice (some g) n c) ∧ World.cell? W (g.add (k * 2)) = some (.string (bs t.p)) ∧ World.cell? W ⟨(g.add (k * 2)).block, (g.add (k * 2)).off + 1, none⟩ = some (.int .i64 t.n) from ⟨cell_below hb a0, cell_below hb p0, cell_below hb p1⟩)
      have hk0 : (0 : Int) ≤ (k : Int) := Int.natCast_nonneg _
      have hk1 : (k : Int) < (n : Int) := by omega
      clear hb hx hc hc' hsn hle hbg hft hdt b2 b4 he hF1 hF2 hF3 hF4 hX hE
      go_wp2_with fail
      go_region_held3 (fun w' => World.cell? w' ⟨w.heap.size, 0, none⟩ = some (.slice (some g) n c) ∧ World.cell? w' (g.add (k * 2)) = some (.string (bs t.p)) ∧ World.cell? w' ⟨(g.add (k * 2)).block, (g.add (k * 2)).off + 1, none⟩ = some (.int .i64 t.n))
        (exact K _ (by first | exact HBX.out | exact (Below.refl _ _).drew | exact Below.refl _ _))
        (first
          | (go_at_call 43; ((with_reducible refine (HC.out _).mono ?_); rintro e w9 ⟨rfl, hb9⟩; have HBX := Lib.hid (show Below wr.heap.size wr w9 from (by first | exact ((Below.refl _ _).drew).trans hb9 | exact hb9)); clear hb9)))
      all_goals
        go_wp2_with fail
        go_roundw
        case rel => exact ⟨k + 1, HLT.out, by simp, HZ.out, HB.out.trans (HBX.out.mono HB.out.size)⟩
        case measure => simp [intOf]; have := HLT.out; omega
    · have hkn : n = k := by omega
      subst hkn
      have hd : decide ((n : Int) < (n : Int)) = false := decide_eq_false (by omega)
      have hall : ds.take n = ds := List.take_of_length_le (by rw [← HN.out]; exact Nat.le_refl _)
      rw [hall]
      have HR2 := Lib.hid (HR.out.below hb)
      have HC2 := Lib.hid (cell_below hb HC1.out)
      obtain ⟨w1, hw1⟩ : ∃ w1, w1 = wr := ⟨_, rfl⟩
      subst hw1
      have HX0 := Lib.hid (show Value.string (bs (ds.flatMap dT)) = .string (bs (ds.flatMap dT ++ (rs.take 0).flatMap rT)) by simp)
      clear hb hlt hk hall HR HD
      go_wp2_with fail
      go_loopw [3, 5] (fun o i wq => ∃ j : Nat, j ≤ m ∧ i = .int .i64 (j : Int) ∧ o = .string (bs (ds.flatMap dT ++ (rs.take j).flatMap rT)) ∧ Below w1.heap.size w1 wq) (fun _ i _ => m + 1 - (intOf i).toNat)
      case atStart => exact ⟨0, Nat.zero_le _, rfl, HX0.out, Below.refl _ _⟩
      case round =>
        obtain ⟨j, hj, rfl, rfl, hb⟩ := hrel
        have HBq := Lib.hid hb
        have a1 := cell_below hb HC2.out
        by_cases hlt : j < m
        · have HLT := Lib.hid hlt
          have hd : decide ((j : Int) < (m : Int)) = true := decide_eq_true (by omega)
          obtain ⟨t, hx⟩ : ∃ t, rs[j]? = some t := ⟨_, List.getElem?_eq_getElem (by rw [← HM.out]; exact hlt)⟩
          obtain ⟨g, rfl, hh⟩ := HR2.out j t hx
          have hh2 := hh.below hb
          obtain ⟨⟨Aa, na, ca, hna, hca, q0, q1, htr⟩, Bb, nb, cb, hnb, hcb, q2, hlr⟩ := hh2
          have hsn := flat_snoc rT hx
          have hle := flat_le rT rs (j + 1)
          have hbg := HBIG.out
          rw [List.length_append] at hbg
          have hok := HOR.out t (List.mem_of_getElem? hx)
          have hdt : rT t = ruleT t ++ [10] := rfl
          rw [hsn, hdt] at hle
          simp only [List.length_append] at hle
          have b1 := add_bs (ds.flatMap dT ++ (rs.take j).flatMap rT) (ruleT t) (by simp only [List.length_append]; omega)
          have b2 := add_bs (ds.flatMap dT ++ (rs.take j).flatMap rT ++ ruleT t) [10] (by simp only [List.length_append]; omega)
          have he : ds.flatMap dT ++ (rs.take j).flatMap rT ++ ruleT t ++ [10] = ds.flatMap dT ++ (rs.take (j + 1)).flatMap rT := by rw [hsn, hdt]; simp
          rw [he] at b2
          obtain ⟨F2, hF2⟩ : ∃ F, bs (ds.flatMap dT ++ (rs.take (j + 1)).flatMap rT) = F := ⟨_, rfl⟩
          obtain ⟨F1, hF1⟩ : ∃ F, bs (ds.flatMap dT ++ (rs.take j).flatMap rT ++ ruleT t) = F := ⟨_, rfl⟩
          obtain ⟨X, hX⟩ : ∃ F, bs (ds.flatMap dT ++ (rs.take j).flatMap rT) = F := ⟨_, rfl⟩
          obtain ⟨E, hE⟩ : ∃ E, bs (ruleT t) = E := ⟨_, rfl⟩
          rw [hF2, hF1] at b2
          rw [hF1, hX, hE] at b1
          rw [hX]
          have c2 : ∀ W, (Op.stringOp .add F1 ⟨#[10]⟩).run Tryz.prog W = .ok (.string F2) W := b2
          have HZ := Lib.hid (show Value.string F2 = .string (bs (ds.flatMap dT ++ (rs.take (j + 1)).flatMap rT)) by rw [hF2])
          have HC := Lib.hid (show Calls Tryz.prog 29 #[.agg #[.string (bs t.h.p), .slice Aa na ca, .slice Bb nb cb]] wr (fun e w' => e = .returned (.string E) ∧ Below wr.heap.size wr w') from by rw [← hE]; exact rfRule_calls Aa Bb na ca nb cb t wr hna hnb htr hlr hok.1 hok.2 (by omega))
          clear hb hx hh hsn hle hbg hok hdt b2 he hF1 hF2 hX hE hna hca htr hnb hcb hlr
          go_wp2_with (go_at_call 29; ((with_reducible refine HC.out.mono ?_); rintro e w9 ⟨rfl, hb9⟩; have HBX := Lib.hid (HBq.out.trans (hb9.mono HBq.out.size)); clear hb9))
          go_roundw
          case rel => exact ⟨j + 1, HLT.out, by simp, HZ.out, HBX.out⟩
          case measure => simp [intOf]; have := HLT.out; omega
        · have hjn : m = j := by omega
          subst hjn
          have hd : decide ((m : Int) < (m : Int)) = false := decide_eq_false (by omega)
          have hall : rs.take m = rs := List.take_of_length_le (by rw [← HM.out]; exact Nat.le_refl _)
          rw [hall]
          clear hb hlt hj hall
          go_wp2_with fail
          go_ret
          exact ⟨rfl, HB0.out.trans ((HB.out.trans (HBq.out.mono HB.out.size)).mono HB0.out.size)⟩
end Go.Proofs.YtminbdcabacfbaaGreatDoor.V

namespace Go.Proofs.YtminbdcabacfbaaGreatDoor.V
set_option linter.unusedVariables false
set_option linter.unusedSimpArgs false
open Go.RowKit

set_option maxRecDepth 100000 in
set_option maxHeartbeats 16000000 in
theorem few_calls (A B : Option Addr) (n c m d : Nat) (ds : List DeclL) (rs : List RuleL) (w : World) (h : ProgAt w A n c B m d ds rs) (hm2 : m < 1000000000) (hbl : ∀ r ∈ rs, r.b.length < 1000000000) :
    Calls Tryz.prog 15 #[.agg #[.slice A n c, .slice B m d]] w fun e w' => (∃ b, e = .returned (.bool b)) ∧ Below w.heap.size w w' := by
  have hb0 := (Below.refl w.heap.size w).alloc (Nat.le_refl _) (.cells #[.slice A n c, .slice B m d] 36)
  have hnw := heap_alloc_new w (.cells #[.slice A n c, .slice B m d] 36)
  have HB0 := Lib.hid hb0
  have HNW := Lib.hid hnw
  have HR := Lib.hid (h.hr.below hb0)
  have HM := Lib.hid h.hm
  have HBL := Lib.hid hbl
  have hw0g : ∃ w0, w.alloc (.cells #[.slice A n c, .slice B m d] 36) = w0 := ⟨_, rfl⟩
  clear hb0 hnw h hbl
  go_enter Tryz.func15, Tryz.ntmps15
  go_wp2_with fail
  obtain ⟨w0, hw0⟩ := hw0g
  rw [hw0] at HB0 HNW HR ⊢
  have HX := Lib.hid (show w.heap.size < w0.heap.size from (Array.getElem?_eq_some_iff.1 HNW.out).1)
  go_loopw [3] (fun i wr => ∃ k : Nat, k ≤ m ∧ i = .int .i64 (k : Int) ∧ Below w0.heap.size w0 wr) (fun i _ => m + 1 - (intOf i).toNat)
  case atStart => exact ⟨0, Nat.zero_le _, rfl, Below.refl _ _⟩
  case round =>
    obtain ⟨k, hk, rfl, hb⟩ := hrel
    have HB := Lib.hid hb
    have a0 := cell_below hb (cell_of_row _ _ 0 _ _ _ HNW.out)
    have a1 := cell_below hb (cell_of_row _ _ 1 _ _ _ HNW.out)
    by_cases hlt : k < m
    · have hd : decide ((k : Int) < (m : Int)) = true := decide_eq_true (by omega)
      by_cases h61 : k < 61
      · have hd2 : decide ((k : Int) < 61) = true := decide_eq_true (by omega)
        obtain ⟨t, hx⟩ : ∃ t, rs[k]? = some t := ⟨_, List.getElem?_eq_getElem (by rw [← HM.out]; exact hlt)⟩
        obtain ⟨a, rfl, hh⟩ := HR.out k t hx
        have hbt := HBL.out t (List.mem_of_getElem? hx)
        have hbx := (Below.refl wr.heap.size wr)
        obtain ⟨⟨Aa, na, ca, hna, hca, d0, d1, htr⟩, Bb, mb, cb, hnb, hcb, d2, hlr⟩ := hh.below hb
        have hbx := (Below.refl wr.heap.size wr).alloc (Nat.le_refl _) (.cells #[.string (bs t.h.p), .slice Aa na ca, .slice Bb mb cb] 50)
        have hnx := heap_alloc_new wr (.cells #[.string (bs t.h.p), .slice Aa na ca, .slice Bb mb cb] 50)
        have HBX := Lib.hid hbx
        have HNX := Lib.hid hnx
        have HL := Lib.hid (hlr.below hbx)
        have HNB := Lib.hid hnb
        have e1 := cell_of_row _ _ 1 _ _ _ hnx
        have e2 := cell_of_row _ _ 2 _ _ _ hnx
        have hmb : mb < 1000000000 := by omega
        clear hb hh hx hna hca htr hnb hcb hlr hbx hnx hbt
        by_cases hb20 : 20 < mb
        · have hd3 : decide (20 < (mb : Int)) = true := decide_eq_true (by omega)
          go_wp2_with fail
          go_ret
          exact ⟨⟨_, rfl⟩, HB0.out.trans ((HB.out.trans (HBX.out.mono HB.out.size)).mono HB0.out.size)⟩
        · have hd3 : decide (20 < (mb : Int)) = false := decide_eq_false (by omega)
          by_cases ha20 : 20 < na
          · have hd4 : decide (20 < (na : Int)) = true := decide_eq_true (by omega)
            go_wp2_with fail
            go_ret
            exact ⟨⟨_, rfl⟩, HB0.out.trans ((HB.out.trans (HBX.out.mono HB.out.size)).mono HB0.out.size)⟩
          · have hd4 : decide (20 < (na : Int)) = false := decide_eq_false (by omega)
            have hvg : ∃ v0, wr.alloc (.cells #[.string (bs t.h.p), .slice Aa na ca, .slice Bb mb cb] 50) = v0 := ⟨_, rfl⟩
            go_wp2_with fail
            obtain ⟨v0, hv0⟩ := hvg
            rw [hv0] at HBX HNX HL ⊢
            have HV := Lib.hid (HB.out.trans (HBX.out.mono HB.out.size))
            clear a0 a1 d0 d1 d2 e1 e2 hv0
            go_loopw [5] (fun i wq => ∃ j : Nat, j ≤ mb ∧ i = .int .i64 (j : Int) ∧ Below v0.heap.size v0 wq) (fun i _ => mb + 1 - (intOf i).toNat)
            case atStart => exact ⟨0, Nat.zero_le _, rfl, Below.refl _ _⟩
            case round =>
              obtain ⟨j, hj, rfl, hb⟩ := hrel
              have HQ := Lib.hid hb
              have f2 := cell_below hb (cell_of_row _ _ 2 _ _ _ HNX.out)
              by_cases hjlt : j < mb
              · have hdj : decide ((j : Int) < (mb : Int)) = true := decide_eq_true (by omega)
                obtain ⟨l, hx⟩ : ∃ l, t.b[j]? = some l := ⟨_, List.getElem?_eq_getElem (by rw [← HNB.out]; exact hjlt)⟩
                obtain ⟨b, rfl, hh⟩ := HL.out j l hx
                obtain ⟨kk, Ab, nb, cbb, _, _, _, _, x0, x1, x2, _⟩ := (hh.below hb).open
                clear hb hh hx
                by_cases hn20 : 20 < nb
                · have hd5 : decide (20 < (nb : Int)) = true := decide_eq_true (by omega)
                  go_wp2_with fail
                  go_ret
                  exact ⟨⟨_, rfl⟩, HB0.out.trans ((HV.out.trans (HQ.out.mono HV.out.size)).mono HB0.out.size)⟩
                · have hd5 : decide (20 < (nb : Int)) = false := decide_eq_false (by omega)
                  go_wp2_with fail
                  go_roundw
                  case rel => exact ⟨j + 1, hjlt, by simp, HQ.out⟩
                  case measure => simp [intOf]; omega
              · have hjn : mb = j := by omega
                subst hjn
                have hdj : decide ((mb : Int) < (mb : Int)) = false := decide_eq_false (by omega)
                clear hb hjlt hj
                go_wp2_with fail
                go_roundw
                case rel => exact ⟨k + 1, hlt, by simp, HV.out.trans (HQ.out.mono HV.out.size)⟩
                case measure => simp [intOf]; omega
      · have hd2 : decide ((k : Int) < 61) = false := decide_eq_false (by omega)
        have hm60 : decide ((m : Int) ≤ 60) = false := decide_eq_false (by omega)
        clear hb
        go_wp2_with fail
        go_ret
        exact ⟨⟨_, rfl⟩, HB0.out.trans (HB.out.mono HB0.out.size)⟩
    · have hkn : m = k := by omega
      subst hkn
      have hd : decide ((m : Int) < (m : Int)) = false := decide_eq_false (by omega)
      clear hb hlt hk
      by_cases hm60 : m ≤ 60
      · have hd2 : decide ((m : Int) ≤ 60) = true := decide_eq_true (by omega)
        go_wp2_with fail
        go_ret
        exact ⟨⟨_, rfl⟩, HB0.out.trans (HB.out.mono HB0.out.size)⟩
      · have hd2 : decide ((m : Int) ≤ 60) = false := decide_eq_false (by omega)
        go_wp2_with fail
        go_ret
        exact ⟨⟨_, rfl⟩, HB0.out.trans (HB.out.mono HB0.out.size)⟩
end Go.Proofs.YtminbdcabacfbaaGreatDoor.V

namespace Go.Proofs.YtminbdcabacfbaaGreatDoor.V
set_option linter.unusedVariables false
set_option linter.unusedSimpArgs false
open Go.RowKit

set_option maxRecDepth 100000 in
set_option maxHeartbeats 32000000 in
theorem prints_calls (A : Option Addr) (n c : Nat) (B : Option Addr) (m d : Nat) (ds : List DeclL) (rs : List RuleL) (w : World) (h : ProgAt w A n c B m d ds rs) (ok : ProgOk ds rs ∧ wP ds rs ≤ 27262976) (hE : ErrW w) (hW : TabW w) :
    Calls Tryz.prog 4 #[.agg #[.slice A n c, .slice B m d]] w fun e w' => e = .returned (.bool true) ∧ Below w.heap.size w w' := by
  have hb0 := (Below.refl w.heap.size w).alloc (Nat.le_refl _) (.cells #[.slice A n c, .slice B m d] 36)
  have hg := heap_alloc_new w (.cells #[.slice A n c, .slice B m d] 36)
  have HB0 := Lib.hid hb0
  have HG := Lib.hid hg
  have HE := Lib.hid (hE.below hb0)
  have HW := Lib.hid (hW.below hb0)
  have HP := Lib.hid (h.below hb0)
  have hmb : m < 1000000000 := by rw [h.hm]; exact ok.1.r
  have HF1 := Lib.hid (fun (W : World) (h : ProgAt W A n c B m d ds rs) => few_calls A B n c m d ds rs W h hmb (fun r hr => (ok.1.l r hr).2.1))
  have hn2 : n ≤ 1000000000 := by rw [h.hn]; exact Nat.le_of_lt ok.1.d
  have hlen := lenT_prog ds rs ok.1.n
  have hok2 := ok.2
  obtain ⟨S, hS⟩ : ∃ S, bs (prgT ds rs) = S := ⟨_, rfl⟩
  obtain ⟨M, hM⟩ : ∃ M, mayP ds rs = M := ⟨_, rfl⟩
  have CP1 := Lib.hid (fun (W : World) (hb : ProgAt W A n c B m d ds rs ∧ TabW W) => (show Calls Tryz.prog 16 #[.agg #[.slice A n c, .slice B m d]] W (fun e w' => e = .returned (.string S) ∧ Below W.heap.size W w') from by rw [← hS]; exact p7Prog A B n c m d ds rs W hb.1 ok.1 hb.2))
  have CP2 := Lib.hid (fun (W : World) (hb : ProgAt W A n c B m d ds rs ∧ TabW W) => (show Calls Tryz.prog 17 #[.agg #[.slice A n c, .slice B m d]] W (fun e w' => e = .returned (.string S) ∧ Below W.heap.size W w') from by
    rw [← hS]
    refine rfProg_calls A B n c m d ds rs W hb.1.hn hb.1.hm hb.1.hd hb.1.hr ok.1.n.1 (fun r hr => ⟨ok.1.ruleOk r hr, ?_⟩) (by omega) hn2 (by omega)
    have q := sum_mem wR hr
    unfold wP at hok2
    omega))
  have CM1 := Lib.hid (fun (W : World) (hb : ProgAt W A n c B m d ds rs ∧ TabW W) => (show Calls Tryz.prog 18 #[.agg #[.slice A n c, .slice B m d]] W (fun e w' => e = .returned (.bool M) ∧ Below W.heap.size W w') from by rw [← hM]; exact p7May A B n c m d ds rs W hb.1 ok.1))
  have CM2 := Lib.hid (fun (W : World) (hb : ProgAt W A n c B m d ds rs ∧ TabW W) => (show Calls Tryz.prog 19 #[.agg #[.slice A n c, .slice B m d]] W (fun e w' => e = .returned (.bool M) ∧ Below W.heap.size W w') from by rw [← hM]; exact rfMay_calls A B n c m d ds rs W hb.1.hn hb.1.hm hb.1.hd hb.1.hr ok.1.declSz ok.1.ruleSz))
  have s1 : (S.toList == S.toList) = true := by simp
  have s2 : (M == M) = true := by simp
  clear hb0 hg hE hW h ok hmb hn2 hlen hok2 hS hM
  go_enter Tryz.func4, Tryz.ntmps4
  go_wp2_with (first
    | (go_at_call 14; ((with_reducible refine (shown7_calls _ HE.out HW.out).mono ?_); rintro e w1 ⟨rfl, hb1⟩; have HB1 := Lib.hid (HB0.out.trans (hb1.mono HB0.out.size)); have HP1 := Lib.hid (HP.out.below hb1); have HW1 := Lib.hid (HW.out.below hb1); have HG1 := Lib.hid ((hb1.block _ (row_lt HG.out)).trans HG.out); have p0 := cell_of_row _ _ 0 _ _ _ HG1.out; have p1 := cell_of_row _ _ 1 _ _ _ HG1.out; clear hb1))
    | (go_at_call 15; ((with_reducible refine (HF1.out _ HP1.out).mono ?_); rintro e w2 ⟨⟨b, rfl⟩, hb2⟩; have HB2 := Lib.hid (HB1.out.trans (hb2.mono HB1.out.size)); have HP2 := Lib.hid (HP1.out.below hb2); have HW2 := Lib.hid (HW1.out.below hb2); have HG2 := Lib.hid ((hb2.block _ (row_lt HG1.out)).trans HG1.out); have q0 := cell_of_row _ _ 0 _ _ _ HG2.out; have q1 := cell_of_row _ _ 1 _ _ _ HG2.out; clear hb2; cases b)))
  · go_ret
    exact ⟨rfl, HB2.out⟩
  · clear p0 p1 q0 q1
    have HL := Lib.hid (row_lt HG2.out)
    have K := fun (W : World) (hb : Below w2.heap.size w2 W) => (show World.cell? W ⟨w.heap.size, 0, none⟩ = some (.slice A n c) ∧ World.cell? W ⟨w.heap.size, 1, none⟩ = some (.slice B m d) from ⟨cell_of_row W _ 0 _ _ _ ((hb.block _ HL.out).trans HG2.out), cell_of_row W _ 1 _ _ _ ((hb.block _ HL.out).trans HG2.out)⟩)
    have D1 := Lib.hid (fun (W : World) (hb : Below w2.heap.size w2 W) => CP1.out W ⟨HP2.out.below hb, HW2.out.below hb⟩)
    have D2 := Lib.hid (fun (W : World) (hb : Below w2.heap.size w2 W) => CP2.out W ⟨HP2.out.below hb, HW2.out.below hb⟩)
    have D3 := Lib.hid (fun (W : World) (hb : Below w2.heap.size w2 W) => CM1.out W ⟨HP2.out.below hb, HW2.out.below hb⟩)
    have D4 := Lib.hid (fun (W : World) (hb : Below w2.heap.size w2 W) => CM2.out W ⟨HP2.out.below hb, HW2.out.below hb⟩)
    clear CP1 CP2 CM1 CM2 HF1 HE HW HP HG HP1 HW1 HG1 HP2 HW2 HB0 HB1
    go_region_held3 (fun w' => World.cell? w' ⟨w.heap.size, 0, none⟩ = some (.slice A n c) ∧ World.cell? w' ⟨w.heap.size, 1, none⟩ = some (.slice B m d))
      (exact K _ (by first | exact HBX.out | exact (Below.refl _ _).drew | exact Below.refl _ _))
      (first
        | (go_at_call 16; ((with_reducible refine (D1.out _ (by first | exact HBX.out | exact (Below.refl _ _).drew | exact Below.refl _ _)).mono ?_); rintro e w9 ⟨rfl, hb9⟩; have HBY := Lib.hid (show Below w2.heap.size w2 w9 from (by first | exact HBX.out.trans (hb9.mono HBX.out.size) | exact ((Below.refl _ _).drew).trans hb9 | exact hb9)); (try clear HBX); have HBX := HBY; clear HBY hb9))
        | (go_at_call 17; ((with_reducible refine (D2.out _ (by first | exact HBX.out | exact (Below.refl _ _).drew | exact Below.refl _ _)).mono ?_); rintro e w9 ⟨rfl, hb9⟩; have HBY := Lib.hid (show Below w2.heap.size w2 w9 from (by first | exact HBX.out.trans (hb9.mono HBX.out.size) | exact ((Below.refl _ _).drew).trans hb9 | exact hb9)); (try clear HBX); have HBX := HBY; clear HBY hb9))
        | (go_at_call 18; ((with_reducible refine (D3.out _ (by first | exact HBX.out | exact (Below.refl _ _).drew | exact Below.refl _ _)).mono ?_); rintro e w9 ⟨rfl, hb9⟩; have HBY := Lib.hid (show Below w2.heap.size w2 w9 from (by first | exact HBX.out.trans (hb9.mono HBX.out.size) | exact ((Below.refl _ _).drew).trans hb9 | exact hb9)); (try clear HBX); have HBX := HBY; clear HBY hb9))
        | (go_at_call 19; ((with_reducible refine (D4.out _ (by first | exact HBX.out | exact (Below.refl _ _).drew | exact Below.refl _ _)).mono ?_); rintro e w9 ⟨rfl, hb9⟩; have HBY := Lib.hid (show Below w2.heap.size w2 w9 from (by first | exact HBX.out.trans (hb9.mono HBX.out.size) | exact ((Below.refl _ _).drew).trans hb9 | exact hb9)); (try clear HBX); have HBX := HBY; clear HBY hb9)))
    all_goals
      go_wp2_with fail
      go_ret
      exact ⟨rfl, HB2.out.trans (HBX.out.mono HB2.out.size)⟩
end Go.Proofs.YtminbdcabacfbaaGreatDoor.V
