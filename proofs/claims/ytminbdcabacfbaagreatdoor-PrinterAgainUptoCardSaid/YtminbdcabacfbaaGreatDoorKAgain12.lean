/- printer.Program: a program's text. The document's SameAtom of two that are the same. The document's SameRule of two that are the same. The document's Same of two that are the same. What the parser lays, read; the example of law 07. lambrequinlaw07.shown: the document's example. The printer's contracts, ready for the laws. lambrequinlaw07.PrinterAgain: what was parsed may be; printed, parsed, and printed it is the same text. -/
import Derived.BigQuiet
import Derived.Deep.QuietTactic
import Derived.Test.YtminbdcabacfbaaGreatDoorKAgain11
namespace Go.Proofs.YtminbdcabacfbaaGreatDoor.V
set_option linter.unusedVariables false
set_option linter.unusedSimpArgs false
open Go.RowKit

def dT (d : DeclL) : List UInt8 := declT d ++ [10]
def rT (r : RuleL) : List UInt8 := ruleT r ++ [10]
theorem prgT_eq (ds : List DeclL) (rs : List RuleL) : prgT ds rs = ds.flatMap dT ++ rs.flatMap rT := rfl
theorem flat_snoc {α : Type} (f : α → List UInt8) {L : List α} {k : Nat} {t : α} (h : L[k]? = some t) : (L.take (k + 1)).flatMap f = (L.take k).flatMap f ++ f t := by
  rw [List.take_add_one, List.flatMap_append, h]
  simp
theorem flat_le {α : Type} (f : α → List UInt8) (L : List α) (k : Nat) : ((L.take k).flatMap f).length ≤ (L.flatMap f).length := by
  conv => rhs; rw [← List.take_append_drop k L]
  rw [List.flatMap_append, List.length_append]
  omega
theorem bsCells (l : List UInt8) : Lib.strCells (bs l) = Lib.byteCells l := rfl
def DeclFit (d : DeclL) : Prop := -9223372036854775808 ≤ d.n ∧ d.n ≤ 9223372036854775807

set_option maxRecDepth 100000 in
set_option maxHeartbeats 16000000 in
theorem prProg_calls (A B : Option Addr) (n c m d : Nat) (ds : List DeclL) (rs : List RuleL) (w : World) (hn : n = ds.length) (hm : m = rs.length) (hD : DeclsRd w A ds) (hR : RulesRd w B rs) (hod : ∀ d ∈ ds, DeclFit d) (hor : ∀ r ∈ rs, RuleOk' r) (hbig : (prgT ds rs).length ≤ 140737488355328) (hn2 : n ≤ 1000000000) (hm2 : m ≤ 1000000000) (hw : TabW w) :
    Calls Tryz.prog 16 #[.agg #[.slice A n c, .slice B m d]] w fun e w' => e = .returned (.string (bs (prgT ds rs))) ∧ Below w.heap.size w w' := by
  have hbl := (Below.refl w.heap.size w).alloc (Nat.le_refl _) (.cells #[.slice A n c, .slice B m d] 36)
  have hnw := heap_alloc_new w (.cells #[.slice A n c, .slice B m d] 36)
  have HBL := Lib.hid hbl
  have HD := Lib.hid (hD.below hbl)
  have HR := Lib.hid (hR.below hbl)
  have HW := Lib.hid (hw.below hbl)
  have HOD := Lib.hid hod
  have HOR := Lib.hid hor
  have HN := Lib.hid hn
  have HM := Lib.hid hm
  have HBIG := Lib.hid hbig
  have HNW := Lib.hid hnw
  have h0 := isbld_new (w.alloc (.cells #[.slice A n c, .slice B m d] 36))
  rw [World.size_alloc] at h0
  have HB0 := Lib.hid h0
  have hsz : (w.alloc (.cells #[.slice A n c, .slice B m d] 36)).heap.size = w.heap.size + 1 := World.size_alloc _ _
  have HSZ := Lib.hid hsz
  have d0 := cell_of_row _ _ 0 _ _ _ hnw
  have HBB := Lib.hid (show Below (w.heap.size + 1) (w.alloc (.cells #[.slice A n c, .slice B m d] 36)) ((w.alloc (.cells #[.slice A n c, .slice B m d] 36)).alloc (.cells #[.pointer none, .slice none 0 0] 84)) from (Below.refl _ _).alloc (by rw [hsz]; exact Nat.le_refl _) _)
  clear hbl hnw hD hR hw hod hor hn hm hbig h0 hsz
  go_enter Tryz.func16, Tryz.ntmps16
  go_wp2_with fail
  go_loopw [11] (fun i wr => ∃ k : Nat, k ≤ n ∧ i = .int .i64 (k : Int) ∧ IsBld (w.heap.size + 1) (w.heap.size + 1) (Lib.byteCells ((ds.take k).flatMap dT)) wr ∧ Below (w.heap.size + 1) (w.alloc (.cells #[.slice A n c, .slice B m d] 36)) wr) (fun i _ => n + 1 - (intOf i).toNat)
  case atStart => exact ⟨0, Nat.zero_le _, rfl, HB0.out, HBB.out⟩
  case round =>
    obtain ⟨k, hk, rfl, hbld, hb⟩ := hrel
    have hb' : Below (w.alloc (.cells #[.slice A n c, .slice B m d] 36)).heap.size (w.alloc (.cells #[.slice A n c, .slice B m d] 36)) wr := by rw [HSZ.out]; exact hb
    have hsr : w.heap.size + 1 ≤ wr.heap.size := by have := hb.size; rw [HSZ.out] at this; exact this
    have HBD := Lib.hid hbld
    have HB := Lib.hid hb
    have HSR := Lib.hid hsr
    by_cases hlt : k < n
    · have hd : decide ((k : Int) < (n : Int)) = true := decide_eq_true (by omega)
      obtain ⟨t, hx⟩ : ∃ t, ds[k]? = some t := ⟨_, List.getElem?_eq_getElem (by rw [← HN.out]; exact hlt)⟩
      obtain ⟨a, rfl, hh⟩ := HD.out k t hx
      have hh2 := hh.below hb'
      have hgt := HOD.out t (List.mem_of_getElem? hx)
      have hsn := flat_snoc dT hx
      have hle := flat_le dT ds (k + 1)
      rw [hsn, List.length_append] at hle
      have hbg := HBIG.out
      rw [prgT_eq, List.length_append] at hbg
      obtain ⟨E, hE⟩ : ∃ E, (⟨(Lib.itoa t.n).toArray⟩ : ByteArray) = E := ⟨_, rfl⟩
      obtain ⟨D, hDD⟩ : ∃ D, bs (dT t) = D := ⟨_, rfl⟩
      have hDs : D.size = (dT t).length := by rw [← hDD, bs_size]
      have HITO := Lib.hid (fun (W : World) (h : TabW W) => (show Calls Tryz.prog 41 #[.int .i64 t.n] W (fun e w' => e = .returned (.string E) ∧ Below W.heap.size W w') from by
        refine (Tryz.strconv_Itoa t.n hgt.1 hgt.2 W h.2).mono ?_
        rintro e w' ⟨rfl, q, os, rfl⟩
        exact ⟨by rw [hE], below_grow (Below.refl _ _) (Nat.le_refl _) _ _⟩))
      have HTG := Lib.hid (fun (W : World) => (show Calls Tryz.prog 40 #[.slice (some ⟨W.heap.size, 0, none⟩) 5 5] (W.alloc (.cells #[.string (bs t.p), .string ⟨#[47]⟩, .string E, .string ⟨#[46]⟩, .string ⟨#[10]⟩] 9)) (fun e w' => e = .returned (.string D) ∧ Below W.heap.size W w') from by
        have e1 : (txs [bs t.p, bs [47], E, bs [46], bs [10]]).flatten = dT t := by rw [← hE]; simp [txs, bs_data, dT, declT]
        have h := tog_new [bs t.p, bs [47], E, bs [46], bs [10]] W (by rw [e1]; omega) (by simp)
        rw [e1, hDD] at h
        exact h))
      have HSN := Lib.hid (show Lib.byteCells ((ds.take k).flatMap dT) ++ Lib.strCells D = Lib.byteCells ((ds.take (k + 1)).flatMap dT) by
        rw [hsn, byteCells_app, ← hDD, bsCells])
      have HLE := Lib.hid (show (Lib.byteCells ((ds.take k).flatMap dT)).length + D.size ≤ 140737488355328 by rw [Lib.byteCells_length, hDs]; omega)
      have hbx := (Below.refl wr.heap.size wr).alloc (Nat.le_refl _) (.cells #[.string (bs t.p), .int .i64 t.n] 86)
      have HBX := Lib.hid hbx.drew
      have HWr := Lib.hid ((HW.out.below hb').below hbx.drew)
      have d0 := hh2.c0
      have d1 := hh2.c1
      have hnd := heap_alloc_new wr (.cells #[.string (bs t.p), .int .i64 t.n] 86)
      have D0 := Lib.hid (cell_of_row _ _ 0 _ _ _ hnd)
      have f0 := D0.out
      have f1 := cell_of_row _ _ 1 _ _ _ hnd
      clear hbld hb hb' hh hh2 hgt hsn hle hbg hE hDD hDs hx hbx hnd hsr
      go_wp2_with fail
      go_region_with (first
        | (go_at_call 41; ((with_reducible refine (HITO.out _ HWr.out).mono ?_); rintro e w2 ⟨rfl, hb2⟩; have e0 := cell_below hb2 (show World.cell? _ _ = _ from D0.out); have HBx2 := Lib.hid (HBX.out.trans (hb2.mono HBX.out.size)); clear hb2))
        | (go_at_call 40; ((with_reducible refine (HTG.out w2).mono ?_); rintro e w3 ⟨rfl, hb3⟩; have HBx3 := Lib.hid (HBx2.out.trans (hb3.mono HBx2.out.size)); have HBD3 := Lib.hid (isbld_below HBD.out HBx3.out); clear hb3))
        | (go_at_call 39; ((with_reducible refine (bwrite_calls _ _ _ _ _ HBD3.out HLE.out (Nat.le_trans HSR.out HBx3.out.size)).mono ?_); rintro e w4 ⟨rfl, h4, hb4⟩; rw [HSN.out] at h4; have H4 := Lib.hid h4; have HB4 := Lib.hid ((HB.out.trans (HBx3.out.mono HSR.out)).trans hb4); clear h4 hb4)))
      all_goals
        go_wp2_with fail
        go_roundw
        case rel => exact ⟨k + 1, hlt, by simp, .inr H4.out, HB4.out⟩
        case measure => simp [intOf]; omega
    · have hkn : n = k := by omega
      subst hkn
      have hd : decide ((n : Int) < (n : Int)) = false := decide_eq_false (by omega)
      have hall : ds.take n = ds := List.take_of_length_le (by rw [← HN.out]; exact Nat.le_refl _)
      rw [hall] at hbld
      have HBD := Lib.hid hbld
      have D1 := Lib.hid (cell_below hb' (cell_of_row _ _ 1 _ _ _ HNW.out))
      have d1 := D1.out
      clear hbld hb hb' hlt hk hall hsr
      go_wp2_with fail
      go_loopw [27] (fun i wq => ∃ j : Nat, j ≤ m ∧ i = .int .i64 (j : Int) ∧ IsBld (w.heap.size + 1) (w.heap.size + 1) (Lib.byteCells (ds.flatMap dT ++ (rs.take j).flatMap rT)) wq ∧ Below (w.heap.size + 1) (w.alloc (.cells #[.slice A n c, .slice B m d] 36)) wq) (fun i _ => m + 1 - (intOf i).toNat)
      case atStart => exact ⟨0, Nat.zero_le _, rfl, by simpa using HBD.out, HB.out⟩
      case round =>
        obtain ⟨j, hj, rfl, hbld, hb⟩ := hrel
        have hb' : Below (w.alloc (.cells #[.slice A n c, .slice B m d] 36)).heap.size (w.alloc (.cells #[.slice A n c, .slice B m d] 36)) wr := by rw [HSZ.out]; exact hb
        have hsr : w.heap.size + 1 ≤ wr.heap.size := by have := hb.size; rw [HSZ.out] at this; exact this
        have HBD2 := Lib.hid hbld
        have HB2 := Lib.hid hb
        have HSR := Lib.hid hsr
        by_cases hlt : j < m
        · have hd : decide ((j : Int) < (m : Int)) = true := decide_eq_true (by omega)
          obtain ⟨t, hx⟩ : ∃ t, rs[j]? = some t := ⟨_, List.getElem?_eq_getElem (by rw [← HM.out]; exact hlt)⟩
          obtain ⟨a, rfl, hh⟩ := HR.out j t hx
          have hh2 := hh.below hb'
          have hgt := HOR.out t (List.mem_of_getElem? hx)
          have hsn := flat_snoc rT hx
          have hle := flat_le rT rs (j + 1)
          rw [hsn, List.length_append] at hle
          have hbg := HBIG.out
          rw [prgT_eq, List.length_append] at hbg
          have hrt : (rT t).length = (ruleT t).length + 1 := by unfold rT; simp
          obtain ⟨E, hE⟩ : ∃ E, bs (ruleT t) = E := ⟨_, rfl⟩
          obtain ⟨D, hDD⟩ : ∃ D, bs (rT t) = D := ⟨_, rfl⟩
          have hDs : D.size = (rT t).length := by rw [← hDD, bs_size]
          obtain ⟨⟨Aa, na, ca, hna, hca, d0, d1, htr⟩, Bb, nb, cb, hnb, hcb, d2, hlr⟩ := hh2
          have HRU := Lib.hid (fun (W : World) (h : TermsRd W Aa t.h.a) (h2 : LitsRd W Bb t.b) (hw : TabW W) => (show Calls Tryz.prog 28 #[.agg #[.string (bs t.h.p), .slice Aa na ca, .slice Bb nb cb]] W (fun e w' => e = .returned (.string E) ∧ Below W.heap.size W w') from by rw [← hE]; exact prRule_calls Aa Bb na ca nb cb t W hna hnb h h2 hgt (by omega) hw))
          have HTG := Lib.hid (fun (W : World) => (show Calls Tryz.prog 40 #[.slice (some ⟨W.heap.size, 0, none⟩) 2 2] (W.alloc (.cells #[.string E, .string ⟨#[10]⟩] 9)) (fun e w' => e = .returned (.string D) ∧ Below W.heap.size W w') from by
            have e1 : (txs [E, bs [10]]).flatten = rT t := by rw [← hE]; simp [txs, bs_data, rT]
            have h := tog_new [E, bs [10]] W (by rw [e1]; omega) (by simp)
            rw [e1, hDD] at h
            exact h))
          have HSN := Lib.hid (show Lib.byteCells (ds.flatMap dT ++ (rs.take j).flatMap rT) ++ Lib.strCells D = Lib.byteCells (ds.flatMap dT ++ (rs.take (j + 1)).flatMap rT) by
            rw [hsn, ← List.append_assoc, byteCells_app _ (rT t), ← hDD, bsCells])
          have HLE := Lib.hid (show (Lib.byteCells (ds.flatMap dT ++ (rs.take j).flatMap rT)).length + D.size ≤ 140737488355328 by rw [Lib.byteCells_length, hDs, List.length_append]; omega)
          have hbx := (Below.refl wr.heap.size wr).alloc (Nat.le_refl _) (.cells #[.string (bs t.h.p), .slice Aa na ca, .slice Bb nb cb] 50)
          have HBX := Lib.hid hbx
          have HWr := Lib.hid ((HW.out.below hb').below hbx)
          have HTr := Lib.hid (htr.below hbx)
          have HLr := Lib.hid (hlr.below hbx)
          clear hbld hb hb' hh hgt hsn hle hbg hE hDD hDs hx hbx hsr hrt hna hca htr hnb hcb hlr
          go_wp2_with (first
            | (go_at_call 28; ((with_reducible refine (HRU.out _ HTr.out HLr.out HWr.out).mono ?_); rintro e w2 ⟨rfl, hb2⟩; have HBx2 := Lib.hid (HBX.out.trans (hb2.mono HBX.out.size)); clear hb2))
            | (go_at_call 40; ((with_reducible refine (HTG.out w2).mono ?_); rintro e w3 ⟨rfl, hb3⟩; have HBx3 := Lib.hid (HBx2.out.trans (hb3.mono HBx2.out.size)); have HBD3 := Lib.hid (isbld_below HBD2.out HBx3.out); clear hb3))
            | (go_at_call 39; ((with_reducible refine (bwrite_calls _ _ _ _ _ HBD3.out HLE.out (Nat.le_trans HSR.out HBx3.out.size)).mono ?_); rintro e w4 ⟨rfl, h4, hb4⟩; rw [HSN.out] at h4; have H4 := Lib.hid h4; have HB4 := Lib.hid ((HB2.out.trans (HBx3.out.mono HSR.out)).trans hb4); clear h4 hb4)))
          go_roundw
          case rel => exact ⟨j + 1, hlt, by simp, .inr H4.out, HB4.out⟩
          case measure => simp [intOf]; omega
        · have hjn : m = j := by omega
          subst hjn
          have hd : decide ((m : Int) < (m : Int)) = false := decide_eq_false (by omega)
          have hall : rs.take m = rs := List.take_of_length_le (by rw [← HM.out]; exact Nat.le_refl _)
          rw [hall, ← prgT_eq] at hbld
          have HBD3 := Lib.hid hbld
          clear hbld hb hb' hlt hj hall hsr
          go_wp2_with (go_at_call 42; ((with_reducible refine (Tryz.Builder_String_any_k _ _ _ _ HBD3.out HSR.out).mono ?_); rintro e w2 ⟨rfl, _, hb2, _⟩; have HB3 := Lib.hid (HB2.out.trans hb2); clear hb2))
          go_ret
          refine ⟨rfl, HBL.out.trans (HB3.out.mono (Nat.le_succ _))⟩
end Go.Proofs.YtminbdcabacfbaaGreatDoor.V

namespace Go.Proofs.YtminbdcabacfbaaGreatDoor.V
set_option linter.unusedVariables false
set_option linter.unusedSimpArgs false
open Go.RowKit

theorem ne_self_str (s : ByteArray) : (s.toList != s.toList) = false := by simp
theorem ne_self_bool (s : Bool) : (s != s) = false := by simp
theorem ne_self_int (s : Int) : (s != s) = false := by simp

set_option maxRecDepth 100000 in
set_option maxHeartbeats 8000000 in
theorem smAtom_calls (p : List UInt8) (xs : List TermL) (A B : Option Addr) (n c d : Nat) (w : World) (hn : n = xs.length) (hn2 : n ≤ 1000000000) (h1 : TermsRd w A xs) (h2 : TermsRd w B xs) :
    Calls Tryz.prog 13 #[.agg #[.string (bs p), .slice A n c], .agg #[.string (bs p), .slice B n d]] w fun e w' => e = .returned (.bool true) ∧ Below w.heap.size w w' := by
  have H1 := Lib.hid h1
  have H2 := Lib.hid h2
  have HN := Lib.hid hn
  have hpp : ((bs p).toList != (bs p).toList) = false := ne_self_str _
  have hnn : ((n : Int) != (n : Int)) = false := ne_self_int _
  have hb0 := ((Below.refl w.heap.size w).alloc (Nat.le_refl _) (.cells #[.string (bs p), .slice A n c] 25)).alloc (by simp) (.cells #[.string (bs p), .slice B n d] 25)
  have HB0 := Lib.hid hb0
  have HA1 := Lib.hid (show IsAt w.heap.size (.string (bs p)) (.slice A n c) ((w.alloc (.cells #[.string (bs p), .slice A n c] 25)).alloc (.cells #[.string (bs p), .slice B n d] 25)) from (IsAt.new w).alloc _)
  have HA2 := Lib.hid (show IsAt (w.heap.size + 1) (.string (bs p)) (.slice B n d) ((w.alloc (.cells #[.string (bs p), .slice A n c] 25)).alloc (.cells #[.string (bs p), .slice B n d] 25)) from by have h := IsAt.new (v0 := .string (bs p)) (v1 := .slice B n d) (w.alloc (.cells #[.string (bs p), .slice A n c] 25)); rwa [World.size_alloc] at h)
  have hw0g : ∃ w0, (w.alloc (.cells #[.string (bs p), .slice A n c] 25)).alloc (.cells #[.string (bs p), .slice B n d] 25) = w0 := ⟨_, rfl⟩
  clear h1 h2 hn hb0
  go_enter Tryz.func13, Tryz.ntmps13
  go_wp2_with fail
  obtain ⟨w0, hw0⟩ := hw0g
  rw [hw0] at HB0 HA1 HA2 ⊢
  go_loopw [5] (fun i wr => ∃ j : Nat, j ≤ n ∧ i = .int .i64 (j : Int) ∧ Below w0.heap.size w0 wr) (fun i _ => n + 1 - (intOf i).toNat)
  case atStart => exact ⟨0, Nat.zero_le _, rfl, Below.refl _ _⟩
  case round =>
    obtain ⟨j, hj, rfl, hb⟩ := hrel
    have HB := Lib.hid hb
    have a1 := cell_below hb HA1.out.c1
    have a2 := cell_below hb HA2.out.c1
    by_cases hlt : j < n
    · have hd : decide ((j : Int) < (n : Int)) = true := decide_eq_true (by omega)
      obtain ⟨x, hx⟩ : ∃ x, xs[j]? = some x := ⟨_, List.getElem?_eq_getElem (by rw [← HN.out]; exact hlt)⟩
      obtain ⟨g1, rfl, hc1⟩ := H1.out j x hx
      obtain ⟨g2, rfl, hc2⟩ := H2.out j x hx
      have hc1' := (hc1.below HB0.out).below hb
      have hc2' := (hc2.below HB0.out).below hb
      obtain ⟨xv, xx, xs', xt, xn⟩ := x
      have p0 := hc1'.c0
      have p1 := hc1'.c1
      have p2 := hc1'.c2
      have p3 := hc1'.c3
      have p4 := hc1'.c4
      have q0 := hc2'.c0
      have q1 := hc2'.c1
      have q2 := hc2'.c2
      have q3 := hc2'.c3
      have q4 := hc2'.c4
      have n0 := ne_self_bool xv
      have n1 := ne_self_str (bs xx)
      have n2 := ne_self_bool xs'
      have n3 := ne_self_str (bs xt)
      have n4 := ne_self_int xn
      clear hb hc1 hc2 hc1' hc2' hx
      go_wp2_with fail
      go_quiet (fail)
      go_wp2_with fail
      go_roundw
      case rel => exact ⟨j + 1, hlt, by simp, HB.out.trans ⟨rfl, rfl, rfl, Nat.le_refl _, fun _ _ => rfl⟩⟩
      case measure => simp [intOf]; omega
    · have hjn : j = n := by omega
      subst hjn
      have hd : decide ((j : Int) < (j : Int)) = false := decide_eq_false (by omega)
      clear hb hlt hj
      go_wp2_with fail
      go_ret
      exact ⟨rfl, HB0.out.trans (HB.out.mono HB0.out.size)⟩
end Go.Proofs.YtminbdcabacfbaaGreatDoor.V

namespace Go.Proofs.YtminbdcabacfbaaGreatDoor.V
set_option linter.unusedVariables false
set_option linter.unusedSimpArgs false
open Go.RowKit

set_option maxRecDepth 100000 in
set_option maxHeartbeats 16000000 in
theorem smRule_calls (x : RuleL) (A1 B1 A2 B2 : Option Addr) (n m c1 d1 c2 d2 : Nat) (w : World) (hn : n = x.h.a.length) (hm : m = x.b.length) (hn2 : n ≤ 1000000000) (hm2 : m ≤ 1000000000) (h1 : TermsRd w A1 x.h.a) (h2 : TermsRd w A2 x.h.a) (g1 : LitsRd w B1 x.b) (g2 : LitsRd w B2 x.b) (hk : ∀ l ∈ x.b, 1 ≤ l.k ∧ l.a.a.length ≤ 1000000000) :
    Calls Tryz.prog 53 #[.agg #[.string (bs x.h.p), .slice A1 n c1, .slice B1 m d1], .agg #[.string (bs x.h.p), .slice A2 n c2, .slice B2 m d2]] w fun e w' => e = .returned (.bool true) ∧ Below w.heap.size w w' := by
  obtain ⟨⟨p, la⟩, lb⟩ := x
  dsimp only at hn hm h1 h2 g1 g2 hk ⊢
  have hmm : ((m : Int) != (m : Int)) = false := ne_self_int _
  have hb0 := ((Below.refl w.heap.size w).alloc (Nat.le_refl _) (.cells #[.string (bs p), .slice A1 n c1, .slice B1 m d1] 50)).alloc (by simp) (.cells #[.string (bs p), .slice A2 n c2, .slice B2 m d2] 50)
  have hn1 := (((Below.refl (w.alloc (.cells #[.string (bs p), .slice A1 n c1, .slice B1 m d1] 50)).heap.size (w.alloc (.cells #[.string (bs p), .slice A1 n c1, .slice B1 m d1] 50))).alloc (Nat.le_refl _) (.cells #[.string (bs p), .slice A2 n c2, .slice B2 m d2] 50)).block w.heap.size (by simp)).trans (heap_alloc_new w (.cells #[.string (bs p), .slice A1 n c1, .slice B1 m d1] 50))
  have hn2' := heap_alloc_new (w.alloc (.cells #[.string (bs p), .slice A1 n c1, .slice B1 m d1] 50)) (.cells #[.string (bs p), .slice A2 n c2, .slice B2 m d2] 50)
  rw [World.size_alloc] at hn2'
  have HB0 := Lib.hid hb0
  have HN1 := Lib.hid hn1
  have HN2 := Lib.hid hn2'
  have H1 := Lib.hid (h1.below hb0)
  have H2 := Lib.hid (h2.below hb0)
  have G1 := Lib.hid (g1.below hb0)
  have G2 := Lib.hid (g2.below hb0)
  have HM := Lib.hid hm
  have HK := Lib.hid hk
  have HSA := Lib.hid (fun (W : World) (u1 : TermsRd W A1 la) (u2 : TermsRd W A2 la) => smAtom_calls p la A1 A2 n c1 c2 W hn hn2 u1 u2)
  have p0 := cell_of_row _ _ 0 _ _ _ hn1
  have p1 := cell_of_row _ _ 1 _ _ _ hn1
  have q0 := cell_of_row _ _ 0 _ _ _ hn2'
  have q1 := cell_of_row _ _ 1 _ _ _ hn2'
  clear hb0 hn1 hn2' h1 h2 g1 g2 hn hm hk
  go_enter Tryz.func53, Tryz.ntmps53
  go_wp2_with (go_at_call 13; ((with_reducible refine (HSA.out _ H1.out H2.out).mono ?_); rintro e w2 ⟨rfl, hb2⟩; have HB2 := Lib.hid hb2; have s2 := cell_below hb2 (cell_of_row _ _ 2 _ _ _ HN1.out); have t2 := cell_below hb2 (cell_of_row _ _ 2 _ _ _ HN2.out); have HS2 := Lib.hid s2; have HT2 := Lib.hid t2; clear hb2))
  go_loopw [5] (fun i wr => ∃ j : Nat, j ≤ m ∧ i = .int .i64 (j : Int) ∧ Below w2.heap.size w2 wr) (fun i _ => m + 1 - (intOf i).toNat)
  case atStart => exact ⟨0, Nat.zero_le _, rfl, Below.refl _ _⟩
  case round =>
    obtain ⟨j, hj, rfl, hb⟩ := hrel
    have HB := Lib.hid hb
    have a1 := cell_below hb HS2.out
    have a2 := cell_below hb HT2.out
    by_cases hlt : j < m
    · have hd : decide ((j : Int) < (m : Int)) = true := decide_eq_true (by omega)
      obtain ⟨t, hx⟩ : ∃ t, lb[j]? = some t := ⟨_, List.getElem?_eq_getElem (by rw [← HM.out]; exact hlt)⟩
      obtain ⟨r1, rfl, hc1⟩ := G1.out j t hx
      obtain ⟨r2, rfl, hc2⟩ := G2.out j t hx
      have hkk := HK.out t (List.mem_of_getElem? hx)
      obtain ⟨kk, Aa, na, ca, k1, k2, k3, htr, x0, x1, x2, x3, x4, x5, x6, x7, x8, x9, x10, x11, x12, x13⟩ := ((hc1.below HB2.out).below hb).open
      obtain ⟨kk', Ab, nb, cb, l1, l2, l3, htr2, y0, y1, y2, y3, y4, y5, y6, y7, y8, y9, y10, y11, y12, y13⟩ := ((hc2.below HB2.out).below hb).open
      obtain rfl : kk' = kk := by omega
      obtain rfl : nb = na := by omega
      have hbx1 := (Below.refl wr.heap.size wr).alloc (Nat.le_refl _) (.cells #[.int .i64 kk', .string (bs t.a.p), .slice Aa nb ca, .string (bs t.o), .bool t.l.v, .string (bs t.l.x), .bool t.l.s, .string (bs t.l.t), .int .i64 t.l.n, .bool t.r.v, .string (bs t.r.x), .bool t.r.s, .string (bs t.r.t), .int .i64 t.r.n] 47)
      have hbx := hbx1.alloc (by simp) (.cells #[.int .i64 kk', .string (bs t.a.p), .slice Ab nb cb, .string (bs t.o), .bool t.l.v, .string (bs t.l.x), .bool t.l.s, .string (bs t.l.t), .int .i64 t.l.n, .bool t.r.v, .string (bs t.r.x), .bool t.r.s, .string (bs t.r.t), .int .i64 t.r.n] 47)
      have z0 := cell_below hbx1 y0
      have z1 := cell_below hbx1 y1
      have z2 := cell_below hbx1 y2
      have z3 := cell_below hbx1 y3
      have z4 := cell_below hbx1 y4
      have z5 := cell_below hbx1 y5
      have z6 := cell_below hbx1 y6
      have z7 := cell_below hbx1 y7
      have z8 := cell_below hbx1 y8
      have z9 := cell_below hbx1 y9
      have z10 := cell_below hbx1 y10
      have z11 := cell_below hbx1 y11
      have z12 := cell_below hbx1 y12
      have z13 := cell_below hbx1 y13
      have HSB := Lib.hid (fun (W : World) (u1 : TermsRd W Aa t.a.a) (u2 : TermsRd W Ab t.a.a) => smAtom_calls t.a.p t.a.a Aa Ab nb ca cb W k2 (by omega) u1 u2)
      have HU1 := Lib.hid (htr.below hbx)
      have HU2 := Lib.hid (htr2.below hbx)
      have HBX := Lib.hid hbx
      have hv1 := ((Below.refl _ (wr.alloc (.cells #[.int .i64 kk', .string (bs t.a.p), .slice Aa nb ca, .string (bs t.o), .bool t.l.v, .string (bs t.l.x), .bool t.l.s, .string (bs t.l.t), .int .i64 t.l.n, .bool t.r.v, .string (bs t.r.x), .bool t.r.s, .string (bs t.r.t), .int .i64 t.r.n] 47))).alloc (Nat.le_refl _) (.cells #[.int .i64 kk', .string (bs t.a.p), .slice Ab nb cb, .string (bs t.o), .bool t.l.v, .string (bs t.l.x), .bool t.l.s, .string (bs t.l.t), .int .i64 t.l.n, .bool t.r.v, .string (bs t.r.x), .bool t.r.s, .string (bs t.r.t), .int .i64 t.r.n] 47)).block wr.heap.size (by simp)
      have hv1' := hv1.trans (heap_alloc_new wr (.cells #[.int .i64 kk', .string (bs t.a.p), .slice Aa nb ca, .string (bs t.o), .bool t.l.v, .string (bs t.l.x), .bool t.l.s, .string (bs t.l.t), .int .i64 t.l.n, .bool t.r.v, .string (bs t.r.x), .bool t.r.s, .string (bs t.r.t), .int .i64 t.r.n] 47))
      have hv2 := heap_alloc_new (wr.alloc (.cells #[.int .i64 kk', .string (bs t.a.p), .slice Aa nb ca, .string (bs t.o), .bool t.l.v, .string (bs t.l.x), .bool t.l.s, .string (bs t.l.t), .int .i64 t.l.n, .bool t.r.v, .string (bs t.r.x), .bool t.r.s, .string (bs t.r.t), .int .i64 t.r.n] 47)) (.cells #[.int .i64 kk', .string (bs t.a.p), .slice Ab nb cb, .string (bs t.o), .bool t.l.v, .string (bs t.l.x), .bool t.l.s, .string (bs t.l.t), .int .i64 t.l.n, .bool t.r.v, .string (bs t.r.x), .bool t.r.s, .string (bs t.r.t), .int .i64 t.r.n] 47)
      rw [World.size_alloc] at hv2
      have v0 := cell_of_row _ _ 0 _ _ _ hv1'
      have u0 := cell_of_row _ _ 0 _ _ _ hv2
      have v1 := cell_of_row _ _ 1 _ _ _ hv1'
      have u1 := cell_of_row _ _ 1 _ _ _ hv2
      have v2 := cell_of_row _ _ 2 _ _ _ hv1'
      have u2 := cell_of_row _ _ 2 _ _ _ hv2
      have v3 := cell_of_row _ _ 3 _ _ _ hv1'
      have u3 := cell_of_row _ _ 3 _ _ _ hv2
      have v4 := cell_of_row _ _ 4 _ _ _ hv1'
      have u4 := cell_of_row _ _ 4 _ _ _ hv2
      have v5 := cell_of_row _ _ 5 _ _ _ hv1'
      have u5 := cell_of_row _ _ 5 _ _ _ hv2
      have v6 := cell_of_row _ _ 6 _ _ _ hv1'
      have u6 := cell_of_row _ _ 6 _ _ _ hv2
      have v7 := cell_of_row _ _ 7 _ _ _ hv1'
      have u7 := cell_of_row _ _ 7 _ _ _ hv2
      have v8 := cell_of_row _ _ 8 _ _ _ hv1'
      have u8 := cell_of_row _ _ 8 _ _ _ hv2
      have v9 := cell_of_row _ _ 9 _ _ _ hv1'
      have u9 := cell_of_row _ _ 9 _ _ _ hv2
      have v10 := cell_of_row _ _ 10 _ _ _ hv1'
      have u10 := cell_of_row _ _ 10 _ _ _ hv2
      have v11 := cell_of_row _ _ 11 _ _ _ hv1'
      have u11 := cell_of_row _ _ 11 _ _ _ hv2
      have v12 := cell_of_row _ _ 12 _ _ _ hv1'
      have u12 := cell_of_row _ _ 12 _ _ _ hv2
      have v13 := cell_of_row _ _ 13 _ _ _ hv1'
      have u13 := cell_of_row _ _ 13 _ _ _ hv2
      have a3 := cell_below hbx1 a1
      have a4 := cell_below hbx1 a2
      have n0 := ne_self_int kk'
      have n1 := ne_self_str (bs t.o)
      have n2 := ne_self_bool t.l.v
      have n3 := ne_self_str (bs t.l.x)
      have n4 := ne_self_bool t.l.s
      have n5 := ne_self_str (bs t.l.t)
      have n6 := ne_self_int t.l.n
      have n7 := ne_self_bool t.r.v
      have n8 := ne_self_str (bs t.r.x)
      have n9 := ne_self_bool t.r.s
      have n10 := ne_self_str (bs t.r.t)
      have n11 := ne_self_int t.r.n
      clear hb hc1 hc2 hx hkk k1 k2 k3 l1 l2 l3 htr htr2 hbx hbx1 hv1 hv1' hv2
      go_wp2_with (go_at_call 13; ((with_reducible refine (HSB.out _ HU1.out HU2.out).mono ?_); rintro e w3 ⟨rfl, hb3⟩; have HB3 := Lib.hid (HBX.out.trans (hb3.mono HBX.out.size)); clear hb3))
      go_roundw
      case rel => exact ⟨j + 1, hlt, by simp, HB.out.trans (HB3.out.mono HB.out.size)⟩
      case measure => simp [intOf]; omega
    · have hjn : m = j := by omega
      subst hjn
      have hd : decide ((m : Int) < (m : Int)) = false := decide_eq_false (by omega)
      clear hb hlt hj
      go_wp2_with fail
      go_ret
      exact ⟨rfl, HB0.out.trans ((HB2.out.trans (HB.out.mono HB2.out.size)).mono HB0.out.size)⟩
end Go.Proofs.YtminbdcabacfbaaGreatDoor.V

namespace Go.Proofs.YtminbdcabacfbaaGreatDoor.V
set_option linter.unusedVariables false
set_option linter.unusedSimpArgs false
open Go.RowKit

set_option maxRecDepth 100000 in
set_option maxHeartbeats 16000000 in
theorem same_calls7 (ds : List DeclL) (rs : List RuleL) (A1 B1 A2 B2 : Option Addr) (n m c1 d1 c2 d2 : Nat) (w : World) (hn : n = ds.length) (hm : m = rs.length) (hn2 : n ≤ 1000000000) (hm2 : m ≤ 1000000000) (h1 : DeclsRd w A1 ds) (h2 : DeclsRd w A2 ds) (g1 : RulesRd w B1 rs) (g2 : RulesRd w B2 rs) (hk : ∀ r ∈ rs, r.h.a.length ≤ 1000000000 ∧ r.b.length ≤ 1000000000 ∧ ∀ l ∈ r.b, 1 ≤ l.k ∧ l.a.a.length ≤ 1000000000) :
    Calls Tryz.prog 21 #[.agg #[.slice A1 n c1, .slice B1 m d1], .agg #[.slice A2 n c2, .slice B2 m d2]] w fun e w' => e = .returned (.bool true) ∧ Below w.heap.size w w' := by
  have hnn : ((n : Int) != (n : Int)) = false := ne_self_int _
  have hmm : ((m : Int) != (m : Int)) = false := ne_self_int _
  have hb0 := ((Below.refl w.heap.size w).alloc (Nat.le_refl _) (.cells #[.slice A1 n c1, .slice B1 m d1] 36)).alloc (by simp) (.cells #[.slice A2 n c2, .slice B2 m d2] 36)
  have hn1 := (((Below.refl (w.alloc (.cells #[.slice A1 n c1, .slice B1 m d1] 36)).heap.size (w.alloc (.cells #[.slice A1 n c1, .slice B1 m d1] 36))).alloc (Nat.le_refl _) (.cells #[.slice A2 n c2, .slice B2 m d2] 36)).block w.heap.size (by simp)).trans (heap_alloc_new w (.cells #[.slice A1 n c1, .slice B1 m d1] 36))
  have hn2' := heap_alloc_new (w.alloc (.cells #[.slice A1 n c1, .slice B1 m d1] 36)) (.cells #[.slice A2 n c2, .slice B2 m d2] 36)
  rw [World.size_alloc] at hn2'
  have HB0 := Lib.hid hb0
  have HN1 := Lib.hid hn1
  have HN2 := Lib.hid hn2'
  have H1 := Lib.hid (h1.below hb0)
  have H2 := Lib.hid (h2.below hb0)
  have G1 := Lib.hid (g1.below hb0)
  have G2 := Lib.hid (g2.below hb0)
  have HN := Lib.hid hn
  have HM := Lib.hid hm
  have HK := Lib.hid hk
  have p0 := cell_of_row _ _ 0 _ _ _ hn1
  have p1 := cell_of_row _ _ 1 _ _ _ hn1
  have q0 := cell_of_row _ _ 0 _ _ _ hn2'
  have q1 := cell_of_row _ _ 1 _ _ _ hn2'
  have P0 := Lib.hid p0
  have P1 := Lib.hid p1
  have Q0 := Lib.hid q0
  have Q1 := Lib.hid q1
  have hw0g : ∃ w0, (w.alloc (.cells #[.slice A1 n c1, .slice B1 m d1] 36)).alloc (.cells #[.slice A2 n c2, .slice B2 m d2] 36) = w0 := ⟨_, rfl⟩
  clear hb0 hn1 hn2' h1 h2 g1 g2 hn hm hk
  go_enter Tryz.func21, Tryz.ntmps21
  go_wp2_with fail
  obtain ⟨w0, hw0⟩ := hw0g
  rw [hw0] at HB0 HN1 HN2 H1 H2 G1 G2 P0 P1 Q0 Q1 ⊢
  clear p0 p1 q0 q1
  go_loopw [5] (fun i wr => ∃ j : Nat, j ≤ n ∧ i = .int .i64 (j : Int) ∧ Below w0.heap.size w0 wr) (fun i _ => n + 1 - (intOf i).toNat)
  case atStart => exact ⟨0, Nat.zero_le _, rfl, Below.refl _ _⟩
  case round =>
    obtain ⟨j, hj, rfl, hb⟩ := hrel
    have HB := Lib.hid hb
    have a1 := cell_below hb P0.out
    have a2 := cell_below hb Q0.out
    by_cases hlt : j < n
    · have hd : decide ((j : Int) < (n : Int)) = true := decide_eq_true (by omega)
      obtain ⟨x, hx⟩ : ∃ x, ds[j]? = some x := ⟨_, List.getElem?_eq_getElem (by rw [← HN.out]; exact hlt)⟩
      obtain ⟨r1, rfl, hc1⟩ := H1.out j x hx
      obtain ⟨r2, rfl, hc2⟩ := H2.out j x hx
      have hc1' := hc1.below hb
      have hc2' := hc2.below hb
      obtain ⟨xp, xn⟩ := x
      have p0 := hc1'.c0
      have p1 := hc1'.c1
      have q0 := hc2'.c0
      have q1 := hc2'.c1
      have n0 := ne_self_str (bs xp)
      have n4 := ne_self_int xn
      clear hb hc1 hc2 hc1' hc2' hx
      go_wp2_with fail
      go_quiet (fail)
      go_wp2_with fail
      go_roundw
      case rel => exact ⟨j + 1, hlt, by simp, HB.out.trans ⟨rfl, rfl, rfl, Nat.le_refl _, fun _ _ => rfl⟩⟩
      case measure => simp [intOf]; omega
    · have hjn : n = j := by omega
      subst hjn
      have hd : decide ((n : Int) < (n : Int)) = false := decide_eq_false (by omega)
      obtain ⟨U, hU⟩ : ∃ U, wr = U := ⟨_, rfl⟩
      have HBU := Lib.hid hb
      rw [hU] at HBU HB a1 a2 ⊢
      clear hb hlt hj hU
      go_wp2_with fail
      go_loopw [6] (fun i wq => ∃ j : Nat, j ≤ m ∧ i = .int .i64 (j : Int) ∧ Below w0.heap.size w0 wq) (fun i _ => m + 1 - (intOf i).toNat)
      case atStart => exact ⟨0, Nat.zero_le _, rfl, HBU.out⟩
      case round =>
        obtain ⟨j, hj, rfl, hb⟩ := hrel
        have HBQ := Lib.hid hb
        have b1 := cell_below hb P1.out
        have b2 := cell_below hb Q1.out
        by_cases hlt : j < m
        · have hd : decide ((j : Int) < (m : Int)) = true := decide_eq_true (by omega)
          obtain ⟨t, hx⟩ : ∃ t, rs[j]? = some t := ⟨_, List.getElem?_eq_getElem (by rw [← HM.out]; exact hlt)⟩
          obtain ⟨r1, rfl, hc1⟩ := G1.out j t hx
          obtain ⟨r2, rfl, hc2⟩ := G2.out j t hx
          have hkk := HK.out t (List.mem_of_getElem? hx)
          have hc1' := hc1.below hb
          have hc2' := hc2.below hb
          obtain ⟨⟨Aa, na, ca, k1, k2, x0, x1, htr⟩, Ba, ma, da, k3, k4, x2, hlr⟩ := hc1'
          obtain ⟨⟨Ab, nb, cb, l1, l2, y0, y1, htr2⟩, Bb, mb, db, l3, l4, y2, hlr2⟩ := hc2'
          obtain rfl : nb = na := by omega
          obtain rfl : mb = ma := by omega
          have HSR := Lib.hid (fun (W : World) (u1 : TermsRd W Aa t.h.a) (u2 : TermsRd W Ab t.h.a) (u3 : LitsRd W Ba t.b) (u4 : LitsRd W Bb t.b) => smRule_calls t Aa Ba Ab Bb nb mb ca da cb db W k1 k3 (by omega) (by omega) u1 u2 u3 u4 hkk.2.2)
          have hbd := (Below.refl wr.heap.size wr).drew
          have HT1 := Lib.hid (htr.below hbd)
          have HT2 := Lib.hid (htr2.below hbd)
          have HL1 := Lib.hid (hlr.below hbd)
          have HL2 := Lib.hid (hlr2.below hbd)
          have HBD := Lib.hid hbd
          clear hb hc1 hc2 hx hkk k1 k2 k3 k4 l1 l2 l3 l4 htr htr2 hlr hlr2 hbd
          go_wp2_with fail
          go_region_with (go_at_call 53; ((with_reducible refine (HSR.out _ HT1.out HT2.out HL1.out HL2.out).mono ?_); rintro e w3 ⟨rfl, hb3⟩; have HB3 := Lib.hid (HBD.out.trans (hb3.mono HBD.out.size)); clear hb3))
          all_goals
            go_wp2_with fail
            go_roundw
            case rel => exact ⟨j + 1, hlt, by simp, HBQ.out.trans (HB3.out.mono HBQ.out.size)⟩
            case measure => simp [intOf]; omega
        · have hjn : m = j := by omega
          subst hjn
          have hd : decide ((m : Int) < (m : Int)) = false := decide_eq_false (by omega)
          clear hb hlt hj
          go_wp2_with fail
          go_ret
          exact ⟨rfl, HB0.out.trans (HBQ.out.mono HB0.out.size)⟩
end Go.Proofs.YtminbdcabacfbaaGreatDoor.V

namespace Go.Proofs.YtminbdcabacfbaaGreatDoor.V
set_option linter.unusedVariables false
set_option linter.unusedSimpArgs false
open Go.RowKit

theorem terms_at_rd {W : World} {B n c : Nat} {A : Option Addr} {L : List TermL} (h : TermsAt B W L (.slice A n c)) : n = L.length ∧ n ≤ c ∧ TermsRd W A L := by
  unfold TermsAt at h
  obtain ⟨A', c', e⟩ := o_slice h
  injection e with _ e2 _
  subst e2
  exact ⟨rfl, own_cap h, terms_rd h rfl⟩
theorem lits_at_rd {W : World} {B n c : Nat} {A : Option Addr} {L : List LitL} (h : LitsAt B W L (.slice A n c)) : n = L.length ∧ n ≤ c ∧ LitsRd W A L := by
  obtain ⟨ps, rfl, ho, hp⟩ := h
  obtain ⟨A', c', e⟩ := o_slice ho
  injection e with _ e2 _
  subst e2
  refine ⟨by simp, own_cap ho, fun j t hj => ?_⟩
  rw [List.getElem?_map, Option.map_eq_some_iff] at hj
  obtain ⟨p, hpj, rfl⟩ := hj
  obtain ⟨g, rfl, hc⟩ := flat_row (fun p : LitL × Value => litC p.1 p.2) (fun x => rfl) ho rfl hpj
  have ht := hp p (List.mem_of_getElem? hpj)
  obtain ⟨A2, c2, e2⟩ := o_slice ht
  obtain ⟨k1, k2, k3⟩ := terms_at_rd (by rw [← e2]; exact ht)
  refine ⟨_, rfl, ?_⟩
  rw [addr_add]
  have h1 := fun i u hi hu => hc i u hi hu
  exact ⟨⟨(p.1.k : Int), hc 0 _ (by omega) rfl, by simp⟩, ⟨A2, _, c2, k1, k2, hc 1 _ (by omega) rfl, (hc 2 _ (by omega) rfl).trans (by rw [e2]), k3⟩, hc 3 _ (by omega) rfl,
    ⟨hc 4 _ (by omega) rfl, hc 5 _ (by omega) rfl, hc 6 _ (by omega) rfl, hc 7 _ (by omega) rfl, hc 8 _ (by omega) rfl⟩, ⟨hc 9 _ (by omega) rfl, hc 10 _ (by omega) rfl, hc 11 _ (by omega) rfl, hc 12 _ (by omega) rfl, hc 13 _ (by omega) rfl⟩⟩
theorem decls_at_rd {W : World} {B n c : Nat} {A : Option Addr} {L : List DeclL} (h : DeclsAt B W L (.slice A n c)) : n = L.length ∧ n ≤ c ∧ DeclsRd W A L := by
  unfold DeclsAt at h
  obtain ⟨A', c', e⟩ := o_slice h
  injection e with _ e2 _
  subst e2
  refine ⟨rfl, own_cap h, fun j t hj => ?_⟩
  obtain ⟨g, rfl, hc⟩ := flat_row declC (fun x => rfl) h rfl hj
  refine ⟨_, rfl, ?_⟩
  rw [addr_add]
  exact ⟨hc 0 _ (by omega) rfl, hc 1 _ (by omega) rfl⟩
theorem rules_at_rd {W : World} {B n c : Nat} {A : Option Addr} {L : List RuleL} (h : RulesAt B W L (.slice A n c)) : n = L.length ∧ n ≤ c ∧ RulesRd W A L := by
  obtain ⟨qs, rfl, ho, hq⟩ := h
  obtain ⟨A', c', e⟩ := o_slice ho
  injection e with _ e2 _
  subst e2
  refine ⟨by simp, own_cap ho, fun j t hj => ?_⟩
  rw [List.getElem?_map, Option.map_eq_some_iff] at hj
  obtain ⟨q, hqj, rfl⟩ := hj
  obtain ⟨g, rfl, hc⟩ := flat_row ruleC (fun x => rfl) ho rfl hqj
  obtain ⟨ht, hl⟩ := hq q (List.mem_of_getElem? hqj)
  obtain ⟨A2, c2, e2⟩ := o_slice ht
  obtain ⟨k1, k2, k3⟩ := terms_at_rd (by rw [← e2]; exact ht)
  obtain ⟨A3, n3, c3, e3⟩ : ∃ A3 n3 c3, q.2.2 = .slice A3 n3 c3 := by
    obtain ⟨ps, _, hp, _⟩ := hl
    obtain ⟨A3, c3, e3⟩ := o_slice hp
    exact ⟨_, _, _, e3⟩
  obtain ⟨l1, l2, l3⟩ := lits_at_rd (by rw [← e3]; exact hl)
  refine ⟨_, rfl, ?_⟩
  rw [addr_add]
  exact ⟨⟨A2, _, c2, k1, k2, hc 0 _ (by omega) rfl, (hc 1 _ (by omega) rfl).trans (by rw [e2]), k3⟩, A3, n3, c3, l1, l2, (hc 2 _ (by omega) rfl).trans (by rw [e3]), l3⟩
/-- What Parse hands back, read. -/
theorem parse7_ok {s : List UInt8} {ds : List DeclL} {rs : List RuleL} (w : World) (hp : parseL s = .ok (ds, rs)) (hs : s.length ≤ 140737488355328) (hE : ErrW w) :
    Calls Tryz.prog 20 #[.string (bs s)] w fun e w' => Below w.heap.size w w' ∧ ∃ A n c B m d, n = ds.length ∧ m = rs.length ∧ n ≤ 400 ∧ m ≤ 400 ∧ n ≤ c ∧ m ≤ d ∧ e = .returned (.tuple #[.agg #[.slice A n c, .slice B m d], .int .i64 0, .int .i64 0]) ∧ DeclsRd w' A ds ∧ RulesRd w' B rs := by
  refine (parse_calls (bs s) w (by rw [bs_size]; omega) hE).mono ?_
  rintro e w' ⟨hb, h⟩
  rw [bs_data, hp] at h
  obtain ⟨vd, vr, rfl, hd, hr, l1, l2⟩ := h
  obtain ⟨A, c, rfl⟩ := o_slice hd
  obtain ⟨B, m, d, rfl⟩ : ∃ B m d, vr = .slice B m d := by
    obtain ⟨qs, _, hq, _⟩ := hr
    obtain ⟨B, d, e⟩ := o_slice hq
    exact ⟨_, _, _, e⟩
  obtain ⟨k1, k2, k3⟩ := decls_at_rd hd
  obtain ⟨j1, j2, j3⟩ := rules_at_rd hr
  exact ⟨hb, A, _, c, B, m, d, k1, j1, l1, by rw [j1]; exact l2, k2, j2, rfl, k3, j3⟩

def ex7 : List UInt8 := [112, 40, 88, 44, 32, 39, 65, 39, 41, 32, 58, 45, 32, 113, 40, 88, 41, 44, 32, 110, 111, 116, 32, 114, 44, 32, 88, 32, 33, 61, 32, 51, 46]
def vX7 : TermL := ⟨true, [88], false, [], 0⟩
def exR7 : RuleL := ⟨⟨[112], [vX7, ⟨false, [], true, [65], 0⟩]⟩, [⟨1, ⟨[113], [vX7]⟩, [], term0, term0⟩, ⟨2, ⟨[114], []⟩, [], term0, term0⟩, ⟨3, atom0, [33, 61], vX7, ⟨false, [], false, [], 3⟩⟩]⟩
theorem ex7_parse : parseL ex7 = .ok ([], [exR7]) := by kernel_rfl
theorem ex7_rule : ruleT exR7 = ex7 := by kernel_rfl
theorem ex7_prog : prgT [] [exR7] = ex7 ++ [10] := by kernel_rfl
theorem ex7_may : mayP [] [exR7] = true := by kernel_rfl
theorem ex7_ok : RuleOk' exR7 := by
  refine ⟨⟨by decide, ?_⟩, by decide, ?_⟩
  · intro t ht
    simp [exR7] at ht
    rcases ht with rfl | rfl <;> exact ⟨by decide, by decide, by decide⟩
  · intro l hl
    have h3 : ∀ t : TermL, t = vX7 ∨ t = term0 ∨ t = ⟨false, [], false, [], 3⟩ → TermOk t := by
      rintro t (rfl | rfl | rfl) <;> exact ⟨by decide, by decide, by decide⟩
    simp [exR7] at hl
    rcases hl with rfl | rfl | rfl
    · exact ⟨⟨by decide, by intro t ht; simp at ht; subst ht; exact h3 _ (.inl rfl)⟩, h3 _ (.inr (.inl rfl)), h3 _ (.inr (.inl rfl))⟩
    · exact ⟨⟨by decide, by intro t ht; simp at ht⟩, h3 _ (.inr (.inl rfl)), h3 _ (.inr (.inl rfl))⟩
    · exact ⟨⟨by decide, by intro t ht; simp [atom0] at ht⟩, h3 _ (.inl rfl), h3 _ (.inr (.inr rfl))⟩
theorem ex7_sz : RuleSz exR7 := by
  have h3 : ∀ t : TermL, t = vX7 ∨ t = term0 ∨ t = ⟨false, [], false, [], 3⟩ ∨ t = ⟨false, [], true, [65], 0⟩ → TermSz t := by
    rintro t (rfl | rfl | rfl | rfl) <;> (unfold TermSz; decide)
  refine ⟨⟨by decide, by decide, ?_⟩, by decide, ?_⟩
  · intro t ht
    simp [exR7] at ht
    rcases ht with rfl | rfl
    · exact h3 _ (.inl rfl)
    · exact h3 _ (.inr (.inr (.inr rfl)))
  · intro l hl
    simp [exR7] at hl
    rcases hl with rfl | rfl | rfl
    · exact ⟨⟨by decide, by decide, by intro t ht; simp at ht; subst ht; exact h3 _ (.inl rfl)⟩, h3 _ (.inr (.inl rfl)), h3 _ (.inr (.inl rfl))⟩
    · exact ⟨⟨by decide, by decide, by intro t ht; simp at ht⟩, h3 _ (.inr (.inl rfl)), h3 _ (.inr (.inl rfl))⟩
    · exact ⟨⟨by decide, by decide, by intro t ht; simp [atom0] at ht⟩, h3 _ (.inl rfl), h3 _ (.inr (.inr (.inl rfl)))⟩
end Go.Proofs.YtminbdcabacfbaaGreatDoor.V

namespace Go.Proofs.YtminbdcabacfbaaGreatDoor.V
set_option linter.unusedVariables false
set_option linter.unusedSimpArgs false
open Go.RowKit

set_option maxRecDepth 100000 in
set_option maxHeartbeats 16000000 in
theorem shown7_calls (w : World) (hE : ErrW w) (hW : TabW w) :
    Calls Tryz.prog 14 #[] w fun e w' => e = .returned (.bool true) ∧ Below w.heap.size w w' := by
  have HE := Lib.hid hE
  have HW := Lib.hid hW
  have HPA := Lib.hid (fun (W : World) (h : ErrW W) => (show Calls Tryz.prog 20 #[.string ⟨#[112, 40, 88, 44, 32, 39, 65, 39, 41, 32, 58, 45, 32, 113, 40, 88, 41, 44, 32, 110, 111, 116, 32, 114, 44, 32, 88, 32, 33, 61, 32, 51, 46]⟩] W (fun e w' => Below W.heap.size W w' ∧ ∃ A n c B m d, n = ([] : List DeclL).length ∧ m = [exR7].length ∧ n ≤ 400 ∧ m ≤ 400 ∧ n ≤ c ∧ m ≤ d ∧ e = .returned (.tuple #[.agg #[.slice A n c, .slice B m d], .int .i64 0, .int .i64 0]) ∧ DeclsRd w' A [] ∧ RulesRd w' B [exR7]) from parse7_ok W ex7_parse (by decide) h))
  have hadd : ∀ W, (Op.stringOp .add (⟨#[112, 40, 88, 44, 32, 39, 65, 39, 41, 32, 58, 45, 32, 113, 40, 88, 41, 44, 32, 110, 111, 116, 32, 114, 44, 32, 88, 32, 33, 61, 32, 51, 46]⟩ : ByteArray) ⟨#[10]⟩).run Tryz.prog W = .ok (.string (bs (ex7 ++ [10]))) W := fun W => run_string_add_sum W _ _ (by decide)
  have HRU := Lib.hid (fun (Aa Ba : Option Addr) (na ca ma da : Nat) (W : World) (k1 : na = exR7.h.a.length) (k3 : ma = exR7.b.length) (h : TermsRd W Aa exR7.h.a) (h2 : LitsRd W Ba exR7.b) (hw : TabW W) => (show Calls Tryz.prog 28 #[.agg #[.string (bs exR7.h.p), .slice Aa na ca, .slice Ba ma da]] W (fun e w' => e = .returned (.string ⟨#[112, 40, 88, 44, 32, 39, 65, 39, 41, 32, 58, 45, 32, 113, 40, 88, 41, 44, 32, 110, 111, 116, 32, 114, 44, 32, 88, 32, 33, 61, 32, 51, 46]⟩) ∧ Below W.heap.size W w') from by
    have h := prRule_calls Aa Ba na ca ma da exR7 W k1 k3 h h2 ex7_ok (by rw [ex7_rule]; decide) hw
    rw [ex7_rule] at h
    exact h))
  have HPR := Lib.hid (fun (A B : Option Addr) (c d : Nat) (W : World) (hd : DeclsRd W A []) (hr : RulesRd W B [exR7]) (hw : TabW W) => (show Calls Tryz.prog 16 #[.agg #[.slice A 0 c, .slice B 1 d]] W (fun e w' => e = .returned (.string (bs (ex7 ++ [10]))) ∧ Below W.heap.size W w') from by
    have h := prProg_calls A B 0 c 1 d [] [exR7] W rfl rfl hd hr (by simp) (by intro r hr; rw [List.mem_singleton.1 hr]; exact ex7_ok) (by rw [ex7_prog]; decide) (by decide) (by decide) hw
    rw [ex7_prog] at h
    exact h))
  have HMY := Lib.hid (fun (A B : Option Addr) (c d : Nat) (W : World) (hd : DeclsRd W A []) (hr : RulesRd W B [exR7]) => (show Calls Tryz.prog 18 #[.agg #[.slice A 0 c, .slice B 1 d]] W (fun e w' => e = .returned (.bool true) ∧ Below W.heap.size W w') from by
    have h := prMay_calls A B 0 c 1 d [] [exR7] W rfl rfl hd hr (by simp) (by intro r hr; rw [List.mem_singleton.1 hr]; exact ex7_sz)
    rw [ex7_may] at h
    exact h))
  clear hE hW
  go_enter Tryz.func14, Tryz.ntmps14
  go_wp2_with (first
    | (go_at_call 20; ((with_reducible refine (HPA.out _ HE.out).mono ?_); rintro e w2 ⟨hb2, A, n, c, B, m, d, hn, hm, hn4, hm4, hnc, hmd, rfl, hd, hr⟩; (obtain rfl : m = 1 := hm); (obtain rfl : n = 0 := hn); obtain ⟨r, rfl, hrr⟩ := hr 0 exR7 rfl; have hbx := (Below.refl w2.heap.size w2).alloc (Nat.le_refl _) (.cells #[.slice A 0 c, .slice (some r) 1 d] 36); have hrx := hrr.below hbx; obtain ⟨⟨Aa, na, ca, k1, k2, x0, x1, htr⟩, Ba, ma, da, k3, k4, x2, hlr⟩ := hrx; have x0' := (show World.cell? _ r = some _ from x0); have x1' := (show World.cell? _ ⟨r.block, r.off + 1, none⟩ = some _ from x1); have x2' := (show World.cell? _ ⟨r.block, r.off + 2, none⟩ = some _ from x2); have HB2 := Lib.hid (hb2.trans (hbx.mono hb2.size)); have HD := Lib.hid (hd.below hbx); have HR := Lib.hid (hr.below hbx); have HW2 := Lib.hid ((HW.out.below hb2).below hbx); have HT := Lib.hid htr; have HL := Lib.hid hlr; have HK1 := Lib.hid k1; have HK3 := Lib.hid k3; have HP := Lib.hid (heap_alloc_new w2 (.cells #[.slice A 0 c, .slice (some r) 1 d] 36)); clear hb2 hd hr hrr hn4 hm4 hbx k1 k2 k3 k4 htr hlr))
    | (go_at_call 28; ((with_reducible refine (HRU.out _ _ _ _ _ _ _ HK1.out HK3.out HT.out HL.out HW2.out).mono ?_); rintro e w3 ⟨rfl, hb3⟩; have HB3 := Lib.hid (HB2.out.trans (hb3.mono HB2.out.size)); have HD3 := Lib.hid (HD.out.below hb3); have HR3 := Lib.hid (HR.out.below hb3); have HW3 := Lib.hid (HW2.out.below hb3); have HP3 := Lib.hid ((hb3.block w2.heap.size (by simp)).trans HP.out); have y0 := cell_of_row _ _ 0 _ _ _ HP3.out; have y1 := cell_of_row _ _ 1 _ _ _ HP3.out; clear hb3))
    | (go_at_call 16; ((with_reducible refine (HPR.out _ _ _ _ _ HD3.out HR3.out HW3.out).mono ?_); rintro e w4 ⟨rfl, hb4⟩; have HB4 := Lib.hid (HB3.out.trans (hb4.mono HB3.out.size)); have HD4 := Lib.hid (HD3.out.below hb4); have HR4 := Lib.hid (HR3.out.below hb4); have z0 := cell_below hb4 (cell_of_row _ _ 0 _ _ _ HP3.out); have z1 := cell_below hb4 (cell_of_row _ _ 1 _ _ _ HP3.out); clear hb4))
    | (go_at_call 18; ((with_reducible refine (HMY.out _ _ _ _ _ HD4.out HR4.out).mono ?_); rintro e w5 ⟨rfl, hb5⟩; have HB5 := Lib.hid (HB4.out.trans (hb5.mono HB4.out.size)); clear hb5)))
  go_ret
  exact ⟨rfl, HB5.out⟩
end Go.Proofs.YtminbdcabacfbaaGreatDoor.V

namespace Go.Proofs.YtminbdcabacfbaaGreatDoor.V
set_option linter.unusedVariables false
set_option linter.unusedSimpArgs false
open Go.RowKit

/-- A program that lies at two slices. -/
structure ProgAt (w : World) (A : Option Addr) (n c : Nat) (B : Option Addr) (m d : Nat) (ds : List DeclL) (rs : List RuleL) : Prop where
  hn : n = ds.length
  hm : m = rs.length
  hd : DeclsRd w A ds
  hr : RulesRd w B rs
theorem ProgAt.below {w w' : World} {A B : Option Addr} {n c m d : Nat} {ds : List DeclL} {rs : List RuleL} (h : ProgAt w A n c B m d ds rs) (hb : Below w.heap.size w w') : ProgAt w' A n c B m d ds rs := ⟨h.hn, h.hm, h.hd.below hb, h.hr.below hb⟩
theorem ProgOk.ruleOk {ds : List DeclL} {rs : List RuleL} (h : ProgOk ds rs) : ∀ r ∈ rs, RuleOk' r := fun r hr => by
  have h1 := h.w
  have h2 := sum_mem wR hr
  unfold wP at h1
  obtain ⟨l1, l2, l3⟩ := h.l r hr
  exact ruleOk_of (h.n.2 r hr) (by omega) l1 l2 l3
theorem ProgOk.ruleSz {ds : List DeclL} {rs : List RuleL} (h : ProgOk ds rs) : ∀ r ∈ rs, RuleSz r := fun r hr => by
  have h1 := h.w
  have h2 := sum_mem wR hr
  unfold wP at h1
  obtain ⟨l1, l2, l3⟩ := h.l r hr
  exact ruleSz_of (by omega) l1 l2 l3
theorem ProgOk.declSz {ds : List DeclL} {rs : List RuleL} (h : ProgOk ds rs) : ∀ d ∈ ds, DeclSz d := fun d hd => by
  have h1 := h.w
  have h2 : d.p.length + 30 ≤ (ds.map wD).sum := sum_mem wD hd
  unfold wP at h1
  unfold DeclSz
  omega
theorem p7Prog (A B : Option Addr) (n c m d : Nat) (ds : List DeclL) (rs : List RuleL) (w : World) (h : ProgAt w A n c B m d ds rs) (ok : ProgOk ds rs) (hw : TabW w) :
    Calls Tryz.prog 16 #[.agg #[.slice A n c, .slice B m d]] w fun e w' => e = .returned (.string (bs (prgT ds rs))) ∧ Below w.heap.size w w' :=
  prProg_calls A B n c m d ds rs w h.hn h.hm h.hd h.hr ok.n.1 ok.ruleOk (by have := lenT_prog ds rs ok.n; have := ok.w; omega) (by rw [h.hn]; have := ok.d; omega) (by rw [h.hm]; have := ok.r; omega) hw
theorem p7May (A B : Option Addr) (n c m d : Nat) (ds : List DeclL) (rs : List RuleL) (w : World) (h : ProgAt w A n c B m d ds rs) (ok : ProgOk ds rs) :
    Calls Tryz.prog 18 #[.agg #[.slice A n c, .slice B m d]] w fun e w' => e = .returned (.bool (mayP ds rs)) ∧ Below w.heap.size w w' :=
  prMay_calls A B n c m d ds rs w h.hn h.hm h.hd h.hr ok.declSz ok.ruleSz
theorem p7Same (A1 B1 A2 B2 : Option Addr) (n m c1 d1 c2 d2 : Nat) (ds : List DeclL) (rs : List RuleL) (w : World) (h1 : ProgAt w A1 n c1 B1 m d1 ds rs) (h2 : ProgAt w A2 n c2 B2 m d2 ds rs) (hm : mayP ds rs = true) :
    Calls Tryz.prog 21 #[.agg #[.slice A1 n c1, .slice B1 m d1], .agg #[.slice A2 n c2, .slice B2 m d2]] w fun e w' => e = .returned (.bool true) ∧ Below w.heap.size w w' := by
  obtain ⟨k1, k2, _, k4⟩ := mayP_parts hm
  refine same_calls7 ds rs A1 B1 A2 B2 n m c1 d1 c2 d2 w h1.hn h1.hm (by rw [h1.hn]; omega) (by rw [h1.hm]; omega) h1.hd h2.hd h1.hr h2.hr fun r hr => ?_
  obtain ⟨j1, j2, j3⟩ := mayR_parts (k4 r hr)
  have := (mayA_parts j1).2.1
  exact ⟨by omega, by omega, fun l hl => ⟨(mayL_parts (j3 l hl)).1.1, by have := mayL_len (j3 l hl); omega⟩⟩
/-- Parse, of a text that is a program. -/
theorem p7Parse {s : List UInt8} {ds : List DeclL} {rs : List RuleL} (w : World) (hp : parseL s = .ok (ds, rs)) (hs : s.length ≤ 140737488355328) (hE : ErrW w) :
    Calls Tryz.prog 20 #[.string (bs s)] w fun e w' => Below w.heap.size w w' ∧ ∃ A n c B m d, e = .returned (.tuple #[.agg #[.slice A n c, .slice B m d], .int .i64 0, .int .i64 0]) ∧ ProgAt w' A n c B m d ds rs := by
  refine (parse7_ok w hp hs hE).mono ?_
  rintro e w' ⟨hb, A, n, c, B, m, d, hn, hm, _, _, _, _, rfl, hd, hr⟩
  exact ⟨hb, A, n, c, B, m, d, rfl, hn, hm, hd, hr⟩
theorem p7Parse_bad {s : List UInt8} {a k : Nat} (w : World) (hp : parseL s = .bad a k) (hs : s.length ≤ 140737488355328) (hE : ErrW w) :
    Calls Tryz.prog 20 #[.string (bs s)] w fun e w' => Below w.heap.size w w' ∧ e = .returned (.tuple #[.agg #[.slice none 0 0, .slice none 0 0], .int .i64 (a : Int), .int .i64 (k : Int)]) := by
  refine (parse_calls (bs s) w (by rw [bs_size]; omega) hE).mono ?_
  rintro e w' ⟨hb, h⟩
  rw [bs_data, hp] at h
  exact ⟨hb, h⟩
end Go.Proofs.YtminbdcabacfbaaGreatDoor.V

namespace Go.Proofs.YtminbdcabacfbaaGreatDoor.V
set_option linter.unusedVariables false
set_option linter.unusedSimpArgs false
open Go.RowKit

set_option maxRecDepth 100000 in
set_option maxHeartbeats 16000000 in
theorem again_calls (s : ByteArray) (w : World) (hs : s.size ≤ 1048576) (hE : ErrW w) (hW : TabW w) :
    Calls Tryz.prog 6 #[.string s] w fun e w' => e = .returned (.bool true) ∧ Below w.heap.size w w' := by
  have HE := Lib.hid hE
  have HW := Lib.hid hW
  clear hE hW
  by_cases hbig : 8000 < s.size
  · have hd : decide (8000 < (s.size : Int)) = true := decide_eq_true (by omega)
    go_enter Tryz.func6, Tryz.ntmps6
    go_wp2_with (go_at_call 14; ((with_reducible refine (shown7_calls _ HE.out HW.out).mono ?_); rintro e w1 ⟨rfl, hb1⟩; have HB1 := Lib.hid hb1; clear hb1))
    go_ret
    exact ⟨rfl, HB1.out⟩
  · have hd : decide (8000 < (s.size : Int)) = false := decide_eq_false (by omega)
    have hsb : bs s.data.toList = s := of_bytes s
    have hsl : s.data.toList.length ≤ 140737488355328 := by rw [← size_data]; omega
    cases hp : parseL s.data.toList with
    | bad a k =>
      have hk := parseL_bad7 hp
      have hkn : ((k : Int) != 0) = true := by simp; omega
      have HPA := Lib.hid (fun (W : World) (h : ErrW W) => (show Calls Tryz.prog 20 #[.string s] W (fun e w' => Below W.heap.size W w' ∧ e = .returned (.tuple #[.agg #[.slice none 0 0, .slice none 0 0], .int .i64 (a : Int), .int .i64 (k : Int)])) from by
        have h := p7Parse_bad W hp hsl h
        rw [hsb] at h
        exact h))
      clear hp hk hsb hsl hbig
      go_enter Tryz.func6, Tryz.ntmps6
      go_wp2_with (first
        | (go_at_call 14; ((with_reducible refine (shown7_calls _ HE.out HW.out).mono ?_); rintro e w1 ⟨rfl, hb1⟩; have HB1 := Lib.hid hb1; have HE1 := Lib.hid (HE.out.below hb1); clear hb1))
        | (go_at_call 20; ((with_reducible refine (HPA.out _ HE1.out).mono ?_); rintro e w2 ⟨hb2, rfl⟩; have HB2 := Lib.hid (HB1.out.trans (hb2.mono HB1.out.size)); clear hb2)))
      go_ret
      exact ⟨rfl, HB2.out.alloc HB2.out.size _⟩
    | ok g =>
      obtain ⟨ds, rs⟩ := g
      obtain ⟨hmay, hfit, hok⟩ := parsed_ok hp
      dsimp only at hmay hfit hok
      obtain ⟨t, ht⟩ : ∃ t, prgT ds rs = t := ⟨_, rfl⟩
      have htl : t.length ≤ 140737488355328 := by rw [← ht]; have := lenT_prog ds rs hok.n; have := hok.w; omega
      have HPA := Lib.hid (fun (W : World) (h : ErrW W) => (show Calls Tryz.prog 20 #[.string s] W (fun e w' => Below W.heap.size W w' ∧ ∃ A n c B m d, e = .returned (.tuple #[.agg #[.slice A n c, .slice B m d], .int .i64 0, .int .i64 0]) ∧ ProgAt w' A n c B m d ds rs) from by
        have h := p7Parse W hp hsl h
        rw [hsb] at h
        exact h))
      have HPR := Lib.hid (fun (A B : Option Addr) (n c m d : Nat) (W : World) (h : ProgAt W A n c B m d ds rs) (hw : TabW W) => (show Calls Tryz.prog 16 #[.agg #[.slice A n c, .slice B m d]] W (fun e w' => e = .returned (.string (bs t)) ∧ Below W.heap.size W w') from by rw [← ht]; exact p7Prog A B n c m d ds rs W h hok hw))
      have HMY := Lib.hid (fun (A B : Option Addr) (n c m d : Nat) (W : World) (h : ProgAt W A n c B m d ds rs) => (show Calls Tryz.prog 18 #[.agg #[.slice A n c, .slice B m d]] W (fun e w' => e = .returned (.bool true) ∧ Below W.heap.size W w') from by rw [← hmay]; exact p7May A B n c m d ds rs W h hok))
      by_cases hlong : t.length ≤ 65536
      · have hpt : parseL t = .ok (ds, rs) := by rw [← ht]; exact print_parse hmay hfit (by rw [ht]; omega)
        have HPT := Lib.hid (fun (W : World) (h : ErrW W) => (show Calls Tryz.prog 20 #[.string (bs t)] W (fun e w' => Below W.heap.size W w' ∧ ∃ A n c B m d, e = .returned (.tuple #[.agg #[.slice A n c, .slice B m d], .int .i64 0, .int .i64 0]) ∧ ProgAt w' A n c B m d ds rs) from p7Parse W hpt (by omega) h))
        have HSM := Lib.hid (fun (A1 B1 A2 B2 : Option Addr) (n m c1 d1 c2 d2 : Nat) (W : World) (h1 : ProgAt W A1 n c1 B1 m d1 ds rs) (h2 : ProgAt W A2 n c2 B2 m d2 ds rs) => p7Same A1 B1 A2 B2 n m c1 d1 c2 d2 ds rs W h1 h2 hmay)
        have htt : ((bs t).toList == (bs t).toList) = true := by simp
        clear hp hsb hsl hbig hmay hfit hok ht htl hlong hpt
        go_enter Tryz.func6, Tryz.ntmps6
        go_wp2_with (first
          | (go_at_call 14; ((with_reducible refine (shown7_calls _ HE.out HW.out).mono ?_); rintro e w1 ⟨rfl, hb1⟩; have HB1 := Lib.hid hb1; have HE1 := Lib.hid (HE.out.below hb1); have HW1 := Lib.hid (HW.out.below hb1); clear hb1))
          | (go_at_call 20; ((with_reducible refine (HPA.out _ HE1.out).mono ?_); rintro e w2 ⟨hb2, A, n, c, B, m, d, rfl, hpa⟩; have hbx := (Below.refl w2.heap.size w2).alloc (Nat.le_refl _) (.cells #[.slice A n c, .slice B m d] 36); have HB2 := Lib.hid (HB1.out.trans ((hb2.trans (hbx.mono hb2.size)).mono HB1.out.size)); have HP2 := Lib.hid (hpa.below hbx); have HE2 := Lib.hid ((HE1.out.below hb2).below hbx); have HW2 := Lib.hid ((HW1.out.below hb2).below hbx); have HX := Lib.hid (heap_alloc_new w2 (.cells #[.slice A n c, .slice B m d] 36)); clear hb2 hbx hpa))
          | (go_at_call 16; ((with_reducible refine (HPR.out _ _ _ _ _ _ _ HP2.out HW2.out).mono ?_); rintro e w3 ⟨rfl, hb3⟩; have HB3 := Lib.hid (HB2.out.trans (hb3.mono HB2.out.size)); have HP3 := Lib.hid (HP2.out.below hb3); have HE3 := Lib.hid (HE2.out.below hb3); have HW3 := Lib.hid (HW2.out.below hb3); have HX3 := Lib.hid ((hb3.block w2.heap.size (by simp)).trans HX.out); clear hb3))
          | (go_at_call 20; ((with_reducible refine (HPT.out _ HE3.out).mono ?_); rintro e w4 ⟨hb4, A4, n4, c4, B4, m4, d4, rfl, hpb⟩; (obtain rfl : n4 = n := by rw [hpb.hn, HP3.out.hn]); (obtain rfl : m4 = m := by rw [hpb.hm, HP3.out.hm]); have hbx := (Below.refl w4.heap.size w4).alloc (Nat.le_refl _) (.cells #[.slice A4 n4 c4, .slice B4 m4 d4] 36); have HB4 := Lib.hid (HB3.out.trans ((hb4.trans (hbx.mono hb4.size)).mono HB3.out.size)); have HP4 := Lib.hid ((HP3.out.below hb4).below hbx); have HQ4 := Lib.hid (hpb.below hbx); have HW4 := Lib.hid ((HW3.out.below hb4).below hbx); have HX4 := Lib.hid ((hbx.block w2.heap.size (Nat.lt_of_lt_of_le (Array.getElem?_eq_some_iff.1 HX3.out).1 hb4.size)).trans ((hb4.block w2.heap.size (Array.getElem?_eq_some_iff.1 HX3.out).1).trans HX3.out)); have HY4 := Lib.hid (heap_alloc_new w4 (.cells #[.slice A4 n4 c4, .slice B4 m4 d4] 36)); have p0 := cell_of_row _ _ 0 _ _ _ HX4.out; have p1 := cell_of_row _ _ 1 _ _ _ HX4.out; clear hb4 hbx hpb))
          | (go_at_call 18; ((with_reducible refine (HMY.out _ _ _ _ _ _ _ HP4.out).mono ?_); rintro e w5 ⟨rfl, hb5⟩; have HB5 := Lib.hid (HB4.out.trans (hb5.mono HB4.out.size)); have HP5 := Lib.hid (HP4.out.below hb5); have HQ5 := Lib.hid (HQ4.out.below hb5); have HW5 := Lib.hid (HW4.out.below hb5); have q0 := cell_below hb5 (cell_of_row _ _ 0 _ _ _ HX4.out); have q1 := cell_below hb5 (cell_of_row _ _ 1 _ _ _ HX4.out); have HY5 := Lib.hid ((hb5.block w4.heap.size (by simp)).trans HY4.out); have r0 := cell_of_row _ _ 0 _ _ _ HY5.out; have r1 := cell_of_row _ _ 1 _ _ _ HY5.out; clear hb5))
          | (go_at_call 21; ((with_reducible refine (HSM.out _ _ _ _ _ _ _ _ _ _ _ HP5.out HQ5.out).mono ?_); rintro e w6 ⟨rfl, hb6⟩; have HB6 := Lib.hid (HB5.out.trans (hb6.mono HB5.out.size)); have HQ6 := Lib.hid (HQ5.out.below hb6); have HW6 := Lib.hid (HW5.out.below hb6); have u0 := cell_below hb6 (cell_of_row _ _ 0 _ _ _ HY5.out); have u1 := cell_below hb6 (cell_of_row _ _ 1 _ _ _ HY5.out); clear hb6))
          | (go_at_call 16; ((with_reducible refine (HPR.out _ _ _ _ _ _ _ HQ6.out HW6.out).mono ?_); rintro e w7 ⟨rfl, hb7⟩; have HB7 := Lib.hid (HB6.out.trans (hb7.mono HB6.out.size)); clear hb7)))
        go_ret
        exact ⟨rfl, HB7.out⟩
      · have hpt : parseL t = .bad 0 4 := by
          unfold parseL scanL
          rw [if_pos (by omega)]
        have HPT := Lib.hid (fun (W : World) (h : ErrW W) => (show Calls Tryz.prog 20 #[.string (bs t)] W (fun e w' => Below W.heap.size W w' ∧ e = .returned (.tuple #[.agg #[.slice none 0 0, .slice none 0 0], .int .i64 0, .int .i64 4])) from p7Parse_bad W hpt htl h))
        have hd2 : decide (60000 < ((bs t).size : Int)) = true := decide_eq_true (by rw [bs_size]; omega)
        clear hp hsb hsl hbig hmay hfit hok ht htl hlong hpt
        go_enter Tryz.func6, Tryz.ntmps6
        go_wp2_with (first
          | (go_at_call 14; ((with_reducible refine (shown7_calls _ HE.out HW.out).mono ?_); rintro e w1 ⟨rfl, hb1⟩; have HB1 := Lib.hid hb1; have HE1 := Lib.hid (HE.out.below hb1); have HW1 := Lib.hid (HW.out.below hb1); clear hb1))
          | (go_at_call 20; ((with_reducible refine (HPA.out _ HE1.out).mono ?_); rintro e w2 ⟨hb2, A, n, c, B, m, d, rfl, hpa⟩; have hbx := (Below.refl w2.heap.size w2).alloc (Nat.le_refl _) (.cells #[.slice A n c, .slice B m d] 36); have HB2 := Lib.hid (HB1.out.trans ((hb2.trans (hbx.mono hb2.size)).mono HB1.out.size)); have HP2 := Lib.hid (hpa.below hbx); have HE2 := Lib.hid ((HE1.out.below hb2).below hbx); have HW2 := Lib.hid ((HW1.out.below hb2).below hbx); have HX := Lib.hid (heap_alloc_new w2 (.cells #[.slice A n c, .slice B m d] 36)); clear hb2 hbx hpa))
          | (go_at_call 16; ((with_reducible refine (HPR.out _ _ _ _ _ _ _ HP2.out HW2.out).mono ?_); rintro e w3 ⟨rfl, hb3⟩; have HB3 := Lib.hid (HB2.out.trans (hb3.mono HB2.out.size)); have HP3 := Lib.hid (HP2.out.below hb3); have HE3 := Lib.hid (HE2.out.below hb3); have HX3 := Lib.hid ((hb3.block w2.heap.size (by simp)).trans HX.out); clear hb3))
          | (go_at_call 20; ((with_reducible refine (HPT.out _ HE3.out).mono ?_); rintro e w4 ⟨hb4, rfl⟩; have hbx := (Below.refl w4.heap.size w4).alloc (Nat.le_refl _) (.cells #[.slice none 0 0, .slice none 0 0] 36); have HB4 := Lib.hid (HB3.out.trans ((hb4.trans (hbx.mono hb4.size)).mono HB3.out.size)); have HP4 := Lib.hid ((HP3.out.below hb4).below hbx); have HX4 := Lib.hid ((hbx.block w2.heap.size (Nat.lt_of_lt_of_le (Array.getElem?_eq_some_iff.1 HX3.out).1 hb4.size)).trans ((hb4.block w2.heap.size (Array.getElem?_eq_some_iff.1 HX3.out).1).trans HX3.out)); have p0 := cell_of_row _ _ 0 _ _ _ HX4.out; have p1 := cell_of_row _ _ 1 _ _ _ HX4.out; clear hb4 hbx))
          | (go_at_call 18; ((with_reducible refine (HMY.out _ _ _ _ _ _ _ HP4.out).mono ?_); rintro e w5 ⟨rfl, hb5⟩; have HB5 := Lib.hid (HB4.out.trans (hb5.mono HB4.out.size)); clear hb5)))
        go_ret
        exact ⟨rfl, HB5.out⟩
end Go.Proofs.YtminbdcabacfbaaGreatDoor.V
