/- The walk of SymtabOnes: for every list of values it returns true, and all that was there lies as it lay. No condition but that values are values. -/
import Derived.Test.YtfdjfkmgablmoaaRefs
namespace Go.Proofs.Ytfdjfkmgablmoaa.Tab
open Go.RowKit Go.Maps Go.Proofs.YtfdjfkmgablmoaaW.PrintWords Go.Proofs.Ytfdjfkmgablmoaa.PSymtabPlays

theorem same_any {x y : S29} (hx : Ok x) (hy : Ok y) (w : World) (r : Bool) (hr : r = decide (norm x = norm y)) : Calls Try.prog 13 #[.agg #[.bool x.f0, .string x.f1, .int .i64 x.f2], .agg #[.bool y.f0, .string y.f1, .int .i64 y.f2]] w fun e w' => e = .returned (.bool r) ∧ Below w.heap.size w w' := by
  obtain ⟨k, hk⟩ := (same_eq hx hy).rounds
  subst hr
  exact lambrequinref01_Same.calls k _ _ _ _ _ _ _ w hk
theorem rd_idx {L : List S29} {x : S29} (h : x ∈ L) : rd_T29 L ((L.idxOf x : Nat) : Int) = x := by
  simp [rd_T29, List.getD_eq_getElem?_getD, idxOf_lt h]
theorem idxOf_eq {L : List S29} {x y : S29} (hx : x ∈ L) (hy : y ∈ L) : (L.idxOf x = L.idxOf y) ↔ x = y := by
  constructor
  · intro h
    have e1 := rd_idx hx
    have e2 := rd_idx hy
    rw [h] at e1
    exact e1.symm.trans e2
  · rintro rfl
    rfl
theorem put_same {w : World} {base tb : Nat} {L : List S29} {x : S29} (hT : IsTab w base any tb L) (hx : Ok x) (hm : norm x ∈ L) {j : Nat} (hj : j = L.idxOf (norm x)) :
    Calls Try.prog 10 #[.pointer (some ⟨tb, 0, none⟩), .agg #[.bool x.f0, .string x.f1, .int .i64 x.f2]] w fun e w' => e = .returned (.int .i64 (j : Nat)) ∧ Below w.heap.size w w' := by
  subst hj
  exact put_there base any tb L x w hT hx hm

set_option maxHeartbeats 8000000 in
set_option maxRecDepth 100000 in
theorem ones_walk (A : Option Addr) (cap : Nat) (l : List S29) (w : World) (hC : Kd.C k29 w A l.length l) (hl : ∀ x ∈ l, Ok x) :
    Calls Try.prog 3 #[.slice A l.length cap] w (ShownPost w) := by
  have hlen : l.length ≤ 9223372036854775807 := hC.2.1
  have HC := Aside0.mk hC
  have HL := Aside0.mk hl
  clear hC hl
  go_enter Try.func3, Try.ntmps3
  go_wp2_with fail
  refine (shown_any _).mono ?_
  rintro e w1 ⟨rfl, hb1⟩
  have HB1 := Aside0.mk hb1
  clear hb1
  go_wp2_with fail
  refine (new_any w w.heap.size _ HB1.out HB1.out.size).mono ?_
  rintro e w2 ⟨tb, rfl, hT2, hB2, _⟩
  have HB2 := Aside0.mk hB2
  have HT2 := Aside0.mk (hT2.mono (ok' := any) (fun _ _ => trivial))
  clear hT2 hB2
  go_wp2_with fail
  go_loopw [5, 6] (fun v i wr => ∃ k : Nat, k ≤ l.length ∧ k ≤ 200 ∧ i = .int .i64 k ∧ wr.ownsRow w.heap.size 3 1 v (numsL l k).length (nums .i64 (numsL l k)) ∧ IsTab wr w.heap.size any tb (tabL (l.take k)) ∧ Below w.heap.size w wr) (fun _ i _ => 200 - (intOf i).toNat)
  case atStart => exact ⟨0, by omega, by omega, rfl, own_nil _ _ _ _, HT2.out, HB2.out⟩
  case round =>
    obtain ⟨k, hk1, hk2, rfl, hO, hT, hB⟩ := hrel
    have HT := Aside0.mk hT
    have HB := Aside0.mk hB
    have HO := Aside0.mk hO
    have hz := hB.size
    clear hT hB hO
    have hL := tabL_len l k
    have hN := numsL_len l k
    by_cases hlt : k < l.length ∧ k < 200
    · obtain ⟨h1, h2⟩ := hlt
      have HX := Aside0.mk (ok_of HL.out h1)
      have HS := Aside0.mk (tabL_take h1)
      have HN := Aside0.mk (numsL_succ l k)
      obtain ⟨j, hj⟩ : ∃ j, j = numAt l k := ⟨_, rfl⟩
      rw [← hj] at HN
      unfold numAt at hj
      obtain ⟨ad, rfl, c0, c1, c2⟩ := cells_at HC.out h1
      generalize rd_T29 l (k : Int) = y at *
      generalize tabL (l.take k) = L at *
      generalize numsL l k = NS at *
      have HJ := Aside0.mk hj
      have hNS : NS.length ≤ 200 := by omega
      clear hj hN
      have d0 := pw_cell_below HB.out c0
      have d1 := pw_cell_below HB.out c1
      have d2 := pw_cell_below HB.out c2
      obtain ⟨Av, cv, rfl, _⟩ := own_reads HO.out
      go_wp2_with fail
      refine (put_to w HT.out HB.out hz HX.out (by omega) HJ.out HS.out).mono ?_
      rintro e w4 ⟨rfl, hT4, hB4, hK4⟩
      have HB4 := Aside0.mk hB4
      have HT4 := Aside0.mk hT4
      have HO4 := Aside0.mk (nums_keep HO.out hK4)
      have hz4 := hB4.size
      clear hT4 hB4 hK4
      go_wp2_with (at_builtin; refine print_append_num w.heap.size rfl (.tmp 26) (.tmp 33) 26 3 .i64 8 rfl Try.underlying26 infoI (by decide) _ NS (j : Int) rfl rfl HO4.out HB4.out hz4 (by omega) ?_; intro v5 w5 hO5 hB5 hg5 hat5; obtain ⟨A5, c5, rfl, _⟩ := own_reads hO5; have HO5 := Aside0.mk hO5; have HB5 := Aside0.mk hB5; have HT5 := Aside0.mk (tab_keep HT4.out HO4.out hg5); clear hO5 hB5 hg5 hat5)
      go_roundw
      case rel => exact ⟨k + 1, by omega, by omega, by go_num, by rw [HN.out]; have t5 := HO5.out; rw [List.length_append, List.length_singleton] at t5 ⊢; exact t5, HT5.out, HB5.out⟩
      case measure => simp [intOf]; omega
    · have HST := Aside0.mk (fun (j : Nat) (hj : j < k) => numAt_stays (l := l) (j := j) (K := k) hj (by omega))
      have HNA := Aside0.mk (fun (j : Nat) (hj : j < k) => numsL_at (l := l) (k := k) (j := j) hj)
      generalize tabL (l.take k) = L at *
      generalize numsL l k = NS at *
      obtain ⟨Av, cv, rfl, hRv⟩ := own_reads HO.out
      clear hRv
      have hNS : NS.length ≤ 200 := by omega
      have hkN : NS.length ≤ l.length := by omega
      rw [← hN] at HST HNA
      have hLN : L.length ≤ NS.length := by omega
      clear hN
      by_cases h1 : k < l.length
      all_goals
        go_wp2_with fail
        refine (len_any _ _ tb L _ HT.out).mono ?_
        rintro e w' ⟨rfl, rfl⟩
        go_wp2_with fail
        go_loopw [8] (fun i wq => ∃ j : Nat, j ≤ NS.length ∧ i = .int .i64 j ∧ wq.ownsRow w.heap.size 3 1 (.slice Av NS.length cv) NS.length (nums .i64 NS) ∧ IsTab wq w.heap.size any tb L ∧ Below w.heap.size w wq) (fun i _ => NS.length - (intOf i).toNat)
        case atStart => exact ⟨0, by omega, rfl, HO.out, HT.out, HB.out⟩
        case round =>
          obtain ⟨j, hj, rfl, hOj, hTj, hBj⟩ := hrel
          have HTj := Aside0.mk hTj
          have HBj := Aside0.mk hBj
          have HOj := Aside0.mk hOj
          have hzj := hBj.size
          clear hTj hBj hOj
          by_cases hlj : j < NS.length
          · have hjl : j < l.length := by omega
            have HX := Aside0.mk (ok_of HL.out hjl)
            obtain ⟨ad, rfl, c0, c1, c2⟩ := cells_at HC.out hjl
            have g1 := (HST.out j hlj).1
            have g2 := (HST.out j hlj).2
            have g3 := HNA.out j hlj
            have HXJ := Aside0.mk (rfl : rd_T29 l (j : Int) = rd_T29 l (j : Int))
            obtain ⟨y, hy⟩ : ∃ y, y = rd_T29 l (j : Int) := ⟨_, rfl⟩
            have HY := Aside0.mk hy
            rw [← hy] at g1 g2 c0 c1 c2 HX
            clear hy HXJ
            obtain ⟨m, hm⟩ : ∃ m, m = L.idxOf (norm y) := ⟨_, rfl⟩
            rw [← g1, ← hm] at g3
            have hml : m < L.length := by rw [hm]; exact idxOf_lt g2
            have hrd : rd_T29 L (m : Int) = norm y := by rw [hm]; exact rd_idx g2
            have HG3 := Aside0.mk g3
            have HG2 := Aside0.mk g2
            have HM := Aside0.mk hm
            have HRD := Aside0.mk hrd
            clear g1 g2 g3 hm hrd
            have d0 := pw_cell_below HBj.out c0
            have d1 := pw_cell_below HBj.out c1
            have d2 := pw_cell_below HBj.out c2
            obtain ⟨Aq, cq, eq, hr4⟩ := own_reads HOj.out
            obtain ⟨rfl, rfl⟩ : Av = Aq ∧ cv = cq := by simpa using eq
            obtain ⟨ad2, rfl, e0⟩ := hr4.at_ (j : Int) (by omega) (by omega)
            simp only [Int.toNat_natCast, rd] at e0
            rw [HG3.out] at e0
            clear hr4 eq
            go_wp2_with fail
            refine (at_in _ _ tb L (m : Int) _ HTj.out (by omega) (by omega)).mono ?_
            rintro e w4 ⟨rfl, hb4⟩
            rw [HRD.out]
            have HB4 := Aside0.mk (below_then HBj.out hzj hb4)
            have HT4 := Aside0.mk (HTj.out.below hb4)
            have HO4 := Aside0.mk (pw_own_below HOj.out hb4)
            have hz4 := HB4.out.size
            have e0 := pw_cell_below hb4 e0
            have d0 := pw_cell_below HB4.out c0
            have d1 := pw_cell_below HB4.out c1
            have d2 := pw_cell_below HB4.out c2
            clear hb4
            have hba := below_alloc (Below.refl w4.heap.size w4) (.cells #[.bool (norm y).f0, .string (norm y).f1, .int .i64 (norm y).f2] 29)
            have e0 := pw_cell_below hba e0
            have d0 := pw_cell_below hba d0
            have d1 := pw_cell_below hba d1
            have d2 := pw_cell_below hba d2
            have HB5 := Aside0.mk (below_then HB4.out hz4 hba)
            have HT5 := Aside0.mk (HT4.out.below hba)
            have HO5 := Aside0.mk (pw_own_below HO4.out hba)
            obtain ⟨g9, hg9⟩ : ∃ g9, g9 = w4.heap.size := ⟨_, rfl⟩
            have b0 : (w4.alloc (.cells #[.bool (norm y).f0, .string (norm y).f1, .int .i64 (norm y).f2] 29)).cell? ⟨g9, 0, none⟩ = some (.bool (norm y).f0) := by rw [hg9]; exact (blk_cell (blk_new w4 _) 0).trans rfl
            have b1 : (w4.alloc (.cells #[.bool (norm y).f0, .string (norm y).f1, .int .i64 (norm y).f2] 29)).cell? ⟨g9, 1, none⟩ = some (.string (norm y).f1) := by rw [hg9]; exact (blk_cell (blk_new w4 _) 1).trans rfl
            have b2 : (w4.alloc (.cells #[.bool (norm y).f0, .string (norm y).f1, .int .i64 (norm y).f2] 29)).cell? ⟨g9, 2, none⟩ = some (.int .i64 (norm y).f2) := by rw [hg9]; exact (blk_cell (blk_new w4 _) 2).trans rfl
            clear hba
            have HNN := Aside0.mk (show true = decide (norm (norm y) = norm y) by simp [norm_norm])
            go_wp2_with fail
            rw [← hg9]
            clear hg9
            generalize w4.alloc (.cells #[.bool (norm y).f0, .string (norm y).f1, .int .i64 (norm y).f2] 29) = W5 at *
            go_region_held3 (fun W => (W.cell? ⟨g9, 0, none⟩ = some (.bool (norm y).f0) ∧ W.cell? ⟨g9, 1, none⟩ = some (.string (norm y).f1) ∧ W.cell? ⟨g9, 2, none⟩ = some (.int .i64 (norm y).f2)) ∧ (W.cell? (ad.add (j * 3)) = some (.bool y.f0) ∧ W.cell? ⟨(ad.add (j * 3)).block, (ad.add (j * 3)).off + 1, none⟩ = some (.string y.f1) ∧ W.cell? ⟨(ad.add (j * 3)).block, (ad.add (j * 3)).off + 2, none⟩ = some (.int .i64 y.f2)) ∧ W.cell? (ad2.add j) = some (.int .i64 (m : Int)) ∧ Below W5.heap.size W5 W)
              (first | (go_split_ands; exact ⟨⟨by assumption, by assumption, by assumption⟩, ⟨by assumption, by assumption, by assumption⟩, by assumption, by assumption⟩) | (go_split_ands; exact ⟨⟨pw_cell_below hb (by assumption), pw_cell_below hb (by assumption), pw_cell_below hb (by assumption)⟩, ⟨pw_cell_below hb (by assumption), pw_cell_below hb (by assumption), pw_cell_below hb (by assumption)⟩, pw_cell_below hb (by assumption), below_step (by assumption) hb⟩) | exact ⟨⟨b0, b1, b2⟩, ⟨d0, d1, d2⟩, e0, below_drew (Below.refl _ _)⟩)
              (first
                | (go_at_call 13; refine (same_any HX.out.norm HX.out _ true HNN.out).mono ?_; rintro e w' ⟨rfl, hb⟩)
                | (go_at_call 10; go_split_ands; refine Calls.mono (put_same (HT5.out.below ?_) HX.out HG2.out HM.out) ?_; assumption; rintro e w' ⟨rfl, hb⟩))
            go_split_ands
            have hbw : Below W5.heap.size W5 w' := by assumption
            have hz5 := HB5.out.size
            have HB6 := Aside0.mk (below_then HB5.out hz5 hbw)
            have HT6 := Aside0.mk (HT5.out.below hbw)
            have HO6 := Aside0.mk (pw_own_below HO5.out hbw)
            clear hbw b0 b1 b2 d0 d1 d2 e0 hz5
            go_wp2_with fail
            go_loopw [11] (fun i wq2 => ∃ q : Nat, q ≤ j ∧ i = .int .i64 q ∧ wq2.ownsRow w.heap.size 3 1 (.slice (some ad2) NS.length cv) NS.length (nums .i64 NS) ∧ IsTab wq2 w.heap.size any tb L ∧ Below w.heap.size w wq2) (fun i _ => j - (intOf i).toNat)
            case atStart => exact ⟨0, by omega, rfl, HO6.out, HT6.out, HB6.out⟩
            case round =>
              obtain ⟨q, hq, rfl, hOq, hTq, hBq⟩ := hrel
              have HTq := Aside0.mk hTq
              have HBq := Aside0.mk hBq
              have HOq := Aside0.mk hOq
              have hzq := hBq.size
              clear hTq hBq hOq
              by_cases hlq : q < j
              · have hqN : q < NS.length := by omega
                have hql : q < l.length := by omega
                have HZ := Aside0.mk (ok_of HL.out hql)
                obtain ⟨adz, eadz, p0, p1, p2⟩ := cells_at HC.out hql
                obtain rfl : ad = adz := by simpa using eadz
                have g1 := (HST.out q hqN).1
                have g2 := (HST.out q hqN).2
                have g3 := HNA.out q hqN
                generalize rd_T29 l (q : Int) = z at *
                obtain ⟨m', hm'⟩ : ∃ m', m' = L.idxOf (norm z) := ⟨_, rfl⟩
                rw [← g1, ← hm'] at g3
                have HG3' := Aside0.mk g3
                have HEQ := Aside0.mk (idxOf_eq HG2.out g2)
                have HM' := Aside0.mk hm'
                clear g1 g2 g3 hm' eadz
                have d0 := pw_cell_below HBq.out c0
                have d1 := pw_cell_below HBq.out c1
                have d2 := pw_cell_below HBq.out c2
                have p0 := pw_cell_below HBq.out p0
                have p1 := pw_cell_below HBq.out p1
                have p2 := pw_cell_below HBq.out p2
                obtain ⟨Aq, cq, eq, hr4⟩ := own_reads HOq.out
                obtain ⟨rfl, rfl⟩ : some ad2 = Aq ∧ cv = cq := by simpa using eq
                obtain ⟨ad3, ead3, e0⟩ := hr4.at_ (j : Int) (by omega) (by omega)
                obtain ⟨ad4, ead4, f0⟩ := hr4.at_ (q : Int) (by omega) (by omega)
                obtain rfl : ad2 = ad3 := by simpa using ead3
                obtain rfl : ad2 = ad4 := by simpa using ead4
                simp only [Int.toNat_natCast, rd] at e0 f0
                rw [HG3.out] at e0
                rw [HG3'.out] at f0
                clear hr4 eq ead3 ead4
                by_cases hyz : norm y = norm z
                · have hmm : m = m' := by rw [HM.out, HM'.out, hyz]
                  have HR := Aside0.mk (show true = decide (norm y = norm z) by simp [hyz])
                  have hbe : ((m : Int) == (m' : Int)) = true := by simp [hmm]
                  clear hyz hmm
                  go_wp2_with fail
                  go_region_held3 (fun W => (W.cell? (ad.add (j * 3)) = some (.bool y.f0) ∧ W.cell? ⟨(ad.add (j * 3)).block, (ad.add (j * 3)).off + 1, none⟩ = some (.string y.f1) ∧ W.cell? ⟨(ad.add (j * 3)).block, (ad.add (j * 3)).off + 2, none⟩ = some (.int .i64 y.f2)) ∧ (W.cell? (ad.add (q * 3)) = some (.bool z.f0) ∧ W.cell? ⟨(ad.add (q * 3)).block, (ad.add (q * 3)).off + 1, none⟩ = some (.string z.f1) ∧ W.cell? ⟨(ad.add (q * 3)).block, (ad.add (q * 3)).off + 2, none⟩ = some (.int .i64 z.f2)) ∧ W.cell? (ad2.add j) = some (.int .i64 (m : Int)) ∧ W.cell? (ad2.add q) = some (.int .i64 (m' : Int)) ∧ Below wr.heap.size wr W)
                    (first | (go_split_ands; exact ⟨⟨by assumption, by assumption, by assumption⟩, ⟨by assumption, by assumption, by assumption⟩, by assumption, by assumption, by assumption⟩) | (go_split_ands; exact ⟨⟨pw_cell_below hb (by assumption), pw_cell_below hb (by assumption), pw_cell_below hb (by assumption)⟩, ⟨pw_cell_below hb (by assumption), pw_cell_below hb (by assumption), pw_cell_below hb (by assumption)⟩, pw_cell_below hb (by assumption), pw_cell_below hb (by assumption), below_step (by assumption) hb⟩) | exact ⟨⟨d0, d1, d2⟩, ⟨p0, p1, p2⟩, e0, f0, below_drew (Below.refl _ _)⟩)
                    (first
                      | (go_at_call 13; refine (same_any HX.out HZ.out _ true HR.out).mono ?_; rintro e w' ⟨rfl, hb⟩))
                  go_split_ands
                  have hbq : Below wr.heap.size wr w' := by assumption
                  have HB9 := Aside0.mk (below_then HBq.out hzq hbq)
                  have HT9 := Aside0.mk (HTq.out.below hbq)
                  have HO9 := Aside0.mk (pw_own_below HOq.out hbq)
                  clear hbq
                  go_wp2
                  go_roundw
                  case rel => exact ⟨q + 1, by omega, by go_num, HO9.out, HT9.out, HB9.out⟩
                  case measure => simp [intOf]; omega
                · have hmm : m ≠ m' := fun e => hyz (HEQ.out.1 (by rw [← HM.out, ← HM'.out, e]))
                  have HR := Aside0.mk (show false = decide (norm y = norm z) by simp [hyz])
                  have hbe : ((m : Int) == (m' : Int)) = false := by simp; omega
                  clear hyz hmm
                  go_wp2_with fail
                  go_region_held3 (fun W => (W.cell? (ad.add (j * 3)) = some (.bool y.f0) ∧ W.cell? ⟨(ad.add (j * 3)).block, (ad.add (j * 3)).off + 1, none⟩ = some (.string y.f1) ∧ W.cell? ⟨(ad.add (j * 3)).block, (ad.add (j * 3)).off + 2, none⟩ = some (.int .i64 y.f2)) ∧ (W.cell? (ad.add (q * 3)) = some (.bool z.f0) ∧ W.cell? ⟨(ad.add (q * 3)).block, (ad.add (q * 3)).off + 1, none⟩ = some (.string z.f1) ∧ W.cell? ⟨(ad.add (q * 3)).block, (ad.add (q * 3)).off + 2, none⟩ = some (.int .i64 z.f2)) ∧ W.cell? (ad2.add j) = some (.int .i64 (m : Int)) ∧ W.cell? (ad2.add q) = some (.int .i64 (m' : Int)) ∧ Below wr.heap.size wr W)
                    (first | (go_split_ands; exact ⟨⟨by assumption, by assumption, by assumption⟩, ⟨by assumption, by assumption, by assumption⟩, by assumption, by assumption, by assumption⟩) | (go_split_ands; exact ⟨⟨pw_cell_below hb (by assumption), pw_cell_below hb (by assumption), pw_cell_below hb (by assumption)⟩, ⟨pw_cell_below hb (by assumption), pw_cell_below hb (by assumption), pw_cell_below hb (by assumption)⟩, pw_cell_below hb (by assumption), pw_cell_below hb (by assumption), below_step (by assumption) hb⟩) | exact ⟨⟨d0, d1, d2⟩, ⟨p0, p1, p2⟩, e0, f0, below_drew (Below.refl _ _)⟩)
                    (first
                      | (go_at_call 13; refine (same_any HX.out HZ.out _ false HR.out).mono ?_; rintro e w' ⟨rfl, hb⟩))
                  go_split_ands
                  have hbq : Below wr.heap.size wr w' := by assumption
                  have HB9 := Aside0.mk (below_then HBq.out hzq hbq)
                  have HT9 := Aside0.mk (HTq.out.below hbq)
                  have HO9 := Aside0.mk (pw_own_below HOq.out hbq)
                  clear hbq
                  go_wp2
                  go_roundw
                  case rel => exact ⟨q + 1, by omega, by go_num, HO9.out, HT9.out, HB9.out⟩
                  case measure => simp [intOf]; omega
              · go_wp2
                go_roundw
                case rel => exact ⟨j + 1, by omega, by go_num, HOq.out, HTq.out, HBq.out⟩
                case measure => simp [intOf]; omega
          · go_wp2_with fail
            refine (len_any _ _ tb L _ HTj.out).mono ?_
            rintro e w' ⟨rfl, rfl⟩
            go_wp2
            go_ret
            exact ⟨rfl, HBj.out⟩
end Go.Proofs.Ytfdjfkmgablmoaa.Tab
