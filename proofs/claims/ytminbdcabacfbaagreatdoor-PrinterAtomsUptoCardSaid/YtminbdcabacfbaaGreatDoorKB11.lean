/- printer.mayLiteral: whether a literal may be. printer.texts of terms: their texts, with commas between. printer.Atom: an atom's text. printer.Literal: a literal's text. printer.texts of literals: their texts, with commas between. printer.all of literals. printer.mayRule: whether a rule may be. printer.all of rules. printer.May: whether a program may be. Blocks of the document's parser; its name and term. (printed by gen_r6b.py) The document's atom with terms: its loop. (printed by gen_r6d.py) printer.Fact: a fact's text. printer.Rule: a rule's text. printer.Program: a program's text. The document's SameAtom of two that are the same. The document's SameRule of two that are the same. -/
import Derived.LoopTactic
import Derived.WalkSmall
import Derived.WalkLawsBesides
import Derived.Outline
import Derived.Lib.Hide
import Derived.BigQuiet
import Derived.Deep.QuietTactic
import Derived.Deep.RegionWith
import Derived.Test.YtminbdcabacfbaaGreatDoorKB10
namespace Go.Proofs.YtminbdcabacfbaaGreatDoor.V
set_option linter.unusedVariables false
set_option linter.unusedSimpArgs false
open Go.RowKit

theorem opL_data (o : ByteArray) : opL o.toList = (([61] : List UInt8) == o.toList || ([33, 61] : List UInt8) == o.toList || ([60] : List UInt8) == o.toList || ([60, 61] : List UInt8) == o.toList || ([62] : List UInt8) == o.toList || ([62, 61] : List UInt8) == o.toList) := by
  unfold opL
  rw [Bool.beq_comm, Bool.beq_comm (a := o.toList) (b := [33, 61]), Bool.beq_comm (a := o.toList) (b := [60]), Bool.beq_comm (a := o.toList) (b := [60, 61]), Bool.beq_comm (a := o.toList) (b := [62]), Bool.beq_comm (a := o.toList) (b := [62, 61])]
theorem holds_any (o : ByteArray) (s : Bool) (t : ByteArray) (n : Int) (s' : Bool) (t' : ByteArray) (n' : Int) (w : World) :
    Calls Tryz.prog 114 #[.string o, .agg #[.bool s, .string t, .int .i64 n], .agg #[.bool s', .string t', .int .i64 n']] w fun e w' => (∃ b, e = .returned (.tuple #[.bool b, .bool (opL o.toList)])) ∧ Below w.heap.size w w' := by
  have hop := opL_data o
  cases h0 : (([61] : List UInt8) == o.toList) with
  | true => refine (holds_at0 o h0 s t n s' t' n' w _ rfl).mono ?_; rintro e w' ⟨rfl, hb⟩; rw [hop, h0]; exact ⟨⟨_, rfl⟩, hb⟩
  | false =>
    cases h1 : (([33, 61] : List UInt8) == o.toList) with
    | true => refine (holds_at1 o h0 h1 s t n s' t' n' w _ rfl).mono ?_; rintro e w' ⟨rfl, hb⟩; rw [hop, h0, h1]; exact ⟨⟨_, rfl⟩, hb⟩
    | false =>
      cases h2 : (([60] : List UInt8) == o.toList) with
      | true => refine (holds_at2 o h0 h1 h2 s t n s' t' n' w _ rfl).mono ?_; rintro e w' ⟨rfl, hb⟩; rw [hop, h0, h1, h2]; exact ⟨⟨_, rfl⟩, hb⟩
      | false =>
        cases h3 : (([60, 61] : List UInt8) == o.toList) with
        | true => refine (holds_at3 o h0 h1 h2 h3 s t n s' t' n' w _ rfl).mono ?_; rintro e w' ⟨rfl, hb⟩; rw [hop, h0, h1, h2, h3]; exact ⟨⟨_, rfl⟩, hb⟩
        | false =>
          cases h4 : (([62] : List UInt8) == o.toList) with
          | true => refine (holds_at4 o h0 h1 h2 h3 h4 s t n s' t' n' w _ rfl).mono ?_; rintro e w' ⟨rfl, hb⟩; rw [hop, h0, h1, h2, h3, h4]; exact ⟨⟨_, rfl⟩, hb⟩
          | false =>
            cases h5 : (([62, 61] : List UInt8) == o.toList) with
            | true => refine (holds_at5 o h0 h1 h2 h3 h4 h5 s t n s' t' n' w _ rfl).mono ?_; rintro e w' ⟨rfl, hb⟩; rw [hop, h0, h1, h2, h3, h4, h5]; exact ⟨⟨_, rfl⟩, hb⟩
            | false => refine (holds_at6 o h0 h1 h2 h3 h4 h5 s t n s' t' n' w _ rfl).mono ?_; rintro e w' ⟨rfl, hb⟩; rw [hop, h0, h1, h2, h3, h4, h5]; exact ⟨⟨_, rfl⟩, hb⟩

set_option maxRecDepth 100000 in
set_option maxHeartbeats 16000000 in
theorem prMayL_calls (kk : Int) (A : Option Addr) (n c : Nat) (x : LitL) (w : World) (hk : kk.toNat = x.k) (hn : n = x.a.a.length) (hT : TermsRd w A x.a.a) (hs : LitSz x) :
    Calls Tryz.prog 83 #[.agg #[.int .i64 kk, .string (bs x.a.p), .slice A n c, .string (bs x.o), .bool x.l.v, .string (bs x.l.x), .bool x.l.s, .string (bs x.l.t), .int .i64 x.l.n, .bool x.r.v, .string (bs x.r.x), .bool x.r.s, .string (bs x.r.t), .int .i64 x.r.n]] w fun e w' => e = .returned (.bool (mayL x)) ∧ Below w.heap.size w w' := by
  obtain ⟨k, ⟨p, la⟩, o, ⟨lv, lx, ls, ly, ln⟩, ⟨rv, rx, rs, ry, rn⟩⟩ := x
  dsimp only at hn hT hk ⊢
  have hbl := (Below.refl w.heap.size w).alloc (Nat.le_refl _) (.cells #[.int .i64 kk, .string (bs p), .slice A n c, .string (bs o), .bool lv, .string (bs lx), .bool ls, .string (bs ly), .int .i64 ln, .bool rv, .string (bs rx), .bool rs, .string (bs ry), .int .i64 rn] 47)
  have hnw := heap_alloc_new w (.cells #[.int .i64 kk, .string (bs p), .slice A n c, .string (bs o), .bool lv, .string (bs lx), .bool ls, .string (bs ly), .int .i64 ln, .bool rv, .string (bs rx), .bool rs, .string (bs ry), .int .i64 rn] 47)
  have HB0 := Lib.hid hbl
  have HT0 := Lib.hid (hT.below hbl)
  have d0 := cell_of_row _ _ 0 _ _ _ hnw
  have d1 := cell_of_row _ _ 1 _ _ _ hnw
  have d2 := cell_of_row _ _ 2 _ _ _ hnw
  have d3 := cell_of_row _ _ 3 _ _ _ hnw
  have d4 := cell_of_row _ _ 4 _ _ _ hnw
  have d5 := cell_of_row _ _ 5 _ _ _ hnw
  have d6 := cell_of_row _ _ 6 _ _ _ hnw
  have d7 := cell_of_row _ _ 7 _ _ _ hnw
  have d8 := cell_of_row _ _ 8 _ _ _ hnw
  have d9 := cell_of_row _ _ 9 _ _ _ hnw
  have d10 := cell_of_row _ _ 10 _ _ _ hnw
  have d11 := cell_of_row _ _ 11 _ _ _ hnw
  have d12 := cell_of_row _ _ 12 _ _ _ hnw
  have d13 := cell_of_row _ _ 13 _ _ _ hnw
  have HNW := Lib.hid hnw
  have HTL := Lib.hid (fun (W : World) => (show Calls Tryz.prog 111 #[.agg #[.bool lv, .string (bs lx), .bool ls, .string (bs ly), .int .i64 ln]] W (fun e w' => e = .returned (.bool (mayT ⟨lv, lx, ls, ly, ln⟩)) ∧ Below W.heap.size W w') from prMayT_calls ⟨lv, lx, ls, ly, ln⟩ W hs.2.1))
  have HTR := Lib.hid (fun (W : World) => (show Calls Tryz.prog 111 #[.agg #[.bool rv, .string (bs rx), .bool rs, .string (bs ry), .int .i64 rn]] W (fun e w' => e = .returned (.bool (mayT ⟨rv, rx, rs, ry, rn⟩)) ∧ Below W.heap.size W w') from prMayT_calls ⟨rv, rx, rs, ry, rn⟩ W hs.2.2))
  have HAT := Lib.hid (fun (W : World) (h : TermsRd W A la) => (show Calls Tryz.prog 81 #[.agg #[.string (bs p), .slice A n c]] W (fun e w' => e = .returned (.bool (mayA ⟨p, la⟩)) ∧ Below W.heap.size W w') from prMayA_calls A n c ⟨p, la⟩ W hn h hs.1))
  have hnil : (bs []).toList = [] := bs_list []
  clear hbl hnw hT hs
  by_cases h3 : kk = 3
  · subst h3
    have hk3 : k = 3 := hk.symm
    have hE : mayL ⟨k, ⟨p, la⟩, o, ⟨lv, lx, ls, ly, ln⟩, ⟨rv, rx, rs, ry, rn⟩⟩ = (opL o && mayT ⟨lv, lx, ls, ly, ln⟩ && mayT ⟨rv, rx, rs, ry, rn⟩ && (bs p).toList.isEmpty && ((n : Int) == 0)) := by
      unfold mayL
      rw [if_pos hk3, bs_list, show ((n : Int) == 0) = la.isEmpty from by
        rw [hn]
        cases la with
        | nil => rfl
        | cons a b => rfl]
    have HHO := Lib.hid (fun (W : World) => (show Calls Tryz.prog 114 #[.string (bs o), .agg #[.bool ls, .string (bs ly), .int .i64 ln], .agg #[.bool rs, .string (bs ry), .int .i64 rn]] W (fun e w' => (∃ b, e = .returned (.tuple #[.bool b, .bool (opL o)])) ∧ Below W.heap.size W w') from by
      have h := holds_any (bs o) ls (bs ly) ln rs (bs ry) rn W
      rw [bs_list] at h
      exact h))
    clear hk hn
    cases ho : opL o with
    | false =>
      have HO := Lib.hid ho
      rw [show mayL ⟨k, ⟨p, la⟩, o, ⟨lv, lx, ls, ly, ln⟩, ⟨rv, rx, rs, ry, rn⟩⟩ = false from by rw [hE, ho]; rfl]
      clear hE ho hk3 hnil
      go_enter Tryz.func83, Tryz.ntmps83
      go_wp2_with (go_at_call 114; ((with_reducible refine (HHO.out _).mono ?_); rw [HO.out]; rintro e w2 ⟨⟨b, rfl⟩, hb2⟩; have HD2 := Lib.hid (show w2.heap[w.heap.size]? = some (.cells #[.int .i64 3, .string (bs p), .slice A n c, .string (bs o), .bool lv, .string (bs lx), .bool ls, .string (bs ly), .int .i64 ln, .bool rv, .string (bs rx), .bool rs, .string (bs ry), .int .i64 rn] 47 (0, 0)) from (hb2.block w.heap.size (by rw [World.size_alloc]; omega)).trans HNW.out); have HB2 := Lib.hid (HB0.out.trans (hb2.mono HB0.out.size)); have e4 := cell_of_row _ _ 4 _ _ _ HD2.out; have e5 := cell_of_row _ _ 5 _ _ _ HD2.out; have e6 := cell_of_row _ _ 6 _ _ _ HD2.out; have e7 := cell_of_row _ _ 7 _ _ _ HD2.out; have e8 := cell_of_row _ _ 8 _ _ _ HD2.out; clear hb2))
      go_ret
      exact ⟨rfl, HB2.out⟩
    | true =>
      have HO := Lib.hid ho
      cases hv2 : mayT ⟨lv, lx, ls, ly, ln⟩ with
      | false =>
        have HV2 := Lib.hid hv2
        rw [show mayL ⟨k, ⟨p, la⟩, o, ⟨lv, lx, ls, ly, ln⟩, ⟨rv, rx, rs, ry, rn⟩⟩ = false from by rw [hE, ho, hv2]; rfl]
        clear hE ho hk3 hnil hv2
        go_enter Tryz.func83, Tryz.ntmps83
        go_wp2_with (first
          | (go_at_call 114; ((with_reducible refine (HHO.out _).mono ?_); rw [HO.out]; rintro e w2 ⟨⟨b, rfl⟩, hb2⟩; have HD2 := Lib.hid (show w2.heap[w.heap.size]? = some (.cells #[.int .i64 3, .string (bs p), .slice A n c, .string (bs o), .bool lv, .string (bs lx), .bool ls, .string (bs ly), .int .i64 ln, .bool rv, .string (bs rx), .bool rs, .string (bs ry), .int .i64 rn] 47 (0, 0)) from (hb2.block w.heap.size (by rw [World.size_alloc]; omega)).trans HNW.out); have HB2 := Lib.hid (HB0.out.trans (hb2.mono HB0.out.size)); have e4 := cell_of_row _ _ 4 _ _ _ HD2.out; have e5 := cell_of_row _ _ 5 _ _ _ HD2.out; have e6 := cell_of_row _ _ 6 _ _ _ HD2.out; have e7 := cell_of_row _ _ 7 _ _ _ HD2.out; have e8 := cell_of_row _ _ 8 _ _ _ HD2.out; clear hb2))
          | (go_at_call 111; ((with_reducible refine (HTL.out _).mono ?_); rw [HV2.out]; rintro e w3 ⟨rfl, hb3⟩; have HD3 := Lib.hid (show w3.heap[w.heap.size]? = some (.cells #[.int .i64 3, .string (bs p), .slice A n c, .string (bs o), .bool lv, .string (bs lx), .bool ls, .string (bs ly), .int .i64 ln, .bool rv, .string (bs rx), .bool rs, .string (bs ry), .int .i64 rn] 47 (0, 0)) from (hb3.block w.heap.size (Array.getElem?_eq_some_iff.1 HD2.out).1).trans HD2.out); have HB3 := Lib.hid (HB2.out.trans (hb3.mono HB2.out.size)); have f9 := cell_of_row _ _ 9 _ _ _ HD3.out; have f10 := cell_of_row _ _ 10 _ _ _ HD3.out; have f11 := cell_of_row _ _ 11 _ _ _ HD3.out; have f12 := cell_of_row _ _ 12 _ _ _ HD3.out; have f13 := cell_of_row _ _ 13 _ _ _ HD3.out; clear hb3)))
        go_ret
        exact ⟨rfl, HB3.out⟩
      | true =>
        have HV2 := Lib.hid hv2
        cases hv3 : mayT ⟨rv, rx, rs, ry, rn⟩ with
        | false =>
          have HV3 := Lib.hid hv3
          rw [show mayL ⟨k, ⟨p, la⟩, o, ⟨lv, lx, ls, ly, ln⟩, ⟨rv, rx, rs, ry, rn⟩⟩ = false from by rw [hE, ho, hv2, hv3]; rfl]
          clear hE ho hk3 hnil hv2 hv3
          go_enter Tryz.func83, Tryz.ntmps83
          go_wp2_with (first
            | (go_at_call 114; ((with_reducible refine (HHO.out _).mono ?_); rw [HO.out]; rintro e w2 ⟨⟨b, rfl⟩, hb2⟩; have HD2 := Lib.hid (show w2.heap[w.heap.size]? = some (.cells #[.int .i64 3, .string (bs p), .slice A n c, .string (bs o), .bool lv, .string (bs lx), .bool ls, .string (bs ly), .int .i64 ln, .bool rv, .string (bs rx), .bool rs, .string (bs ry), .int .i64 rn] 47 (0, 0)) from (hb2.block w.heap.size (by rw [World.size_alloc]; omega)).trans HNW.out); have HB2 := Lib.hid (HB0.out.trans (hb2.mono HB0.out.size)); have e4 := cell_of_row _ _ 4 _ _ _ HD2.out; have e5 := cell_of_row _ _ 5 _ _ _ HD2.out; have e6 := cell_of_row _ _ 6 _ _ _ HD2.out; have e7 := cell_of_row _ _ 7 _ _ _ HD2.out; have e8 := cell_of_row _ _ 8 _ _ _ HD2.out; clear hb2))
            | (go_at_call 111; ((with_reducible refine (HTL.out _).mono ?_); rw [HV2.out]; rintro e w3 ⟨rfl, hb3⟩; have HD3 := Lib.hid (show w3.heap[w.heap.size]? = some (.cells #[.int .i64 3, .string (bs p), .slice A n c, .string (bs o), .bool lv, .string (bs lx), .bool ls, .string (bs ly), .int .i64 ln, .bool rv, .string (bs rx), .bool rs, .string (bs ry), .int .i64 rn] 47 (0, 0)) from (hb3.block w.heap.size (Array.getElem?_eq_some_iff.1 HD2.out).1).trans HD2.out); have HB3 := Lib.hid (HB2.out.trans (hb3.mono HB2.out.size)); have f9 := cell_of_row _ _ 9 _ _ _ HD3.out; have f10 := cell_of_row _ _ 10 _ _ _ HD3.out; have f11 := cell_of_row _ _ 11 _ _ _ HD3.out; have f12 := cell_of_row _ _ 12 _ _ _ HD3.out; have f13 := cell_of_row _ _ 13 _ _ _ HD3.out; clear hb3))
            | (go_at_call 111; ((with_reducible refine (HTR.out w3).mono ?_); rw [HV3.out]; rintro e w4 ⟨rfl, hb4⟩; have HD4 := Lib.hid (show w4.heap[w.heap.size]? = some (.cells #[.int .i64 3, .string (bs p), .slice A n c, .string (bs o), .bool lv, .string (bs lx), .bool ls, .string (bs ly), .int .i64 ln, .bool rv, .string (bs rx), .bool rs, .string (bs ry), .int .i64 rn] 47 (0, 0)) from (hb4.block w.heap.size (Array.getElem?_eq_some_iff.1 HD3.out).1).trans HD3.out); have HB4 := Lib.hid (HB3.out.trans (hb4.mono HB3.out.size)); have g1 := cell_of_row _ _ 1 _ _ _ HD4.out; have g2 := cell_of_row _ _ 2 _ _ _ HD4.out; clear hb4)))
          go_ret
          exact ⟨rfl, HB4.out⟩
        | true =>
          have HV3 := Lib.hid hv3
          rw [show mayL ⟨k, ⟨p, la⟩, o, ⟨lv, lx, ls, ly, ln⟩, ⟨rv, rx, rs, ry, rn⟩⟩ = ((bs p).toList.isEmpty && ((n : Int) == 0)) from by rw [hE, ho, hv2, hv3]; rfl]
          clear hE ho hk3 hnil hv2 hv3
          go_enter Tryz.func83, Tryz.ntmps83
          go_wp2_with (first
            | (go_at_call 114; ((with_reducible refine (HHO.out _).mono ?_); rw [HO.out]; rintro e w2 ⟨⟨b, rfl⟩, hb2⟩; have HD2 := Lib.hid (show w2.heap[w.heap.size]? = some (.cells #[.int .i64 3, .string (bs p), .slice A n c, .string (bs o), .bool lv, .string (bs lx), .bool ls, .string (bs ly), .int .i64 ln, .bool rv, .string (bs rx), .bool rs, .string (bs ry), .int .i64 rn] 47 (0, 0)) from (hb2.block w.heap.size (by rw [World.size_alloc]; omega)).trans HNW.out); have HB2 := Lib.hid (HB0.out.trans (hb2.mono HB0.out.size)); have e4 := cell_of_row _ _ 4 _ _ _ HD2.out; have e5 := cell_of_row _ _ 5 _ _ _ HD2.out; have e6 := cell_of_row _ _ 6 _ _ _ HD2.out; have e7 := cell_of_row _ _ 7 _ _ _ HD2.out; have e8 := cell_of_row _ _ 8 _ _ _ HD2.out; clear hb2))
            | (go_at_call 111; ((with_reducible refine (HTL.out _).mono ?_); rw [HV2.out]; rintro e w3 ⟨rfl, hb3⟩; have HD3 := Lib.hid (show w3.heap[w.heap.size]? = some (.cells #[.int .i64 3, .string (bs p), .slice A n c, .string (bs o), .bool lv, .string (bs lx), .bool ls, .string (bs ly), .int .i64 ln, .bool rv, .string (bs rx), .bool rs, .string (bs ry), .int .i64 rn] 47 (0, 0)) from (hb3.block w.heap.size (Array.getElem?_eq_some_iff.1 HD2.out).1).trans HD2.out); have HB3 := Lib.hid (HB2.out.trans (hb3.mono HB2.out.size)); have f9 := cell_of_row _ _ 9 _ _ _ HD3.out; have f10 := cell_of_row _ _ 10 _ _ _ HD3.out; have f11 := cell_of_row _ _ 11 _ _ _ HD3.out; have f12 := cell_of_row _ _ 12 _ _ _ HD3.out; have f13 := cell_of_row _ _ 13 _ _ _ HD3.out; clear hb3))
            | (go_at_call 111; ((with_reducible refine (HTR.out w3).mono ?_); rw [HV3.out]; rintro e w4 ⟨rfl, hb4⟩; have HD4 := Lib.hid (show w4.heap[w.heap.size]? = some (.cells #[.int .i64 3, .string (bs p), .slice A n c, .string (bs o), .bool lv, .string (bs lx), .bool ls, .string (bs ly), .int .i64 ln, .bool rv, .string (bs rx), .bool rs, .string (bs ry), .int .i64 rn] 47 (0, 0)) from (hb4.block w.heap.size (Array.getElem?_eq_some_iff.1 HD3.out).1).trans HD3.out); have HB4 := Lib.hid (HB3.out.trans (hb4.mono HB3.out.size)); have g1 := cell_of_row _ _ 1 _ _ _ HD4.out; have g2 := cell_of_row _ _ 2 _ _ _ HD4.out; clear hb4)))
          all_goals
            go_ret
            refine ⟨?_, HB4.out⟩
            first | rfl | (simp_all; done)
  · have hq3 : (kk == 3) = false := beq_eq_false_iff_ne.2 h3
    have hk3 : ¬ k = 3 := by omega
    by_cases h12 : kk = 1 ∨ kk = 2
    · have hkb : (k == 1 || k == 2) = true := by rcases h12 with rfl | rfl <;> (have := hk; subst this; decide)
      have hE : mayL ⟨k, ⟨p, la⟩, o, ⟨lv, lx, ls, ly, ln⟩, ⟨rv, rx, rs, ry, rn⟩⟩ = (o.isEmpty && isTerm0 ⟨lv, lx, ls, ly, ln⟩ && isTerm0 ⟨rv, rx, rs, ry, rn⟩ && mayA ⟨p, la⟩) := by
        unfold mayL
        rw [if_neg hk3, hkb, Bool.true_and]
      by_cases hoe : o = []
      · by_cases hl0 : (⟨lv, lx, ls, ly, ln⟩ : TermL) = term0
        · by_cases hr0 : (⟨rv, rx, rs, ry, rn⟩ : TermL) = term0
          · rw [show mayL ⟨k, ⟨p, la⟩, o, ⟨lv, lx, ls, ly, ln⟩, ⟨rv, rx, rs, ry, rn⟩⟩ = mayA ⟨p, la⟩ from by rw [hE, hoe, hl0, hr0]; rfl]
            simp only [term0, TermL.mk.injEq] at hl0 hr0
            obtain ⟨rfl, rfl, rfl, rfl, rfl⟩ := hl0
            obtain ⟨rfl, rfl, rfl, rfl, rfl⟩ := hr0
            subst hoe
            clear hE hkb hk3 hk hn hq3 h3
            rcases h12 with rfl | rfl
            all_goals
              go_enter Tryz.func83, Tryz.ntmps83
              go_wp2_with (go_at_call 81; ((with_reducible refine (HAT.out _ HT0.out).mono ?_); rintro e w2 ⟨rfl, hb2⟩; have HB2 := Lib.hid (HB0.out.trans (hb2.mono HB0.out.size)); clear hb2))
              go_ret
              exact ⟨rfl, HB2.out⟩
          · rw [show mayL ⟨k, ⟨p, la⟩, o, ⟨lv, lx, ls, ly, ln⟩, ⟨rv, rx, rs, ry, rn⟩⟩ = false from by
              have : isTerm0 ⟨rv, rx, rs, ry, rn⟩ = false := by
                cases hh : isTerm0 ⟨rv, rx, rs, ry, rn⟩ with
                | false => rfl
                | true => exact absurd (isTerm0_eq hh) hr0
              rw [hE, this]; simp]
            have HR0 := Lib.hid hr0
            simp only [term0, TermL.mk.injEq] at hl0
            obtain ⟨rfl, rfl, rfl, rfl, rfl⟩ := hl0
            subst hoe
            clear hE hkb hk3 hk hn hq3 h3 hr0
            rcases h12 with rfl | rfl
            all_goals
              go_enter Tryz.func83, Tryz.ntmps83
              go_wp2_with fail
              all_goals first
                | (go_ret; exact ⟨rfl, (Below.refl w.heap.size w).alloc (Nat.le_refl _) _⟩)
                | (exfalso; have hr := HR0.out; simp_all [term0, bs_list]; done)
        · rw [show mayL ⟨k, ⟨p, la⟩, o, ⟨lv, lx, ls, ly, ln⟩, ⟨rv, rx, rs, ry, rn⟩⟩ = false from by
            have : isTerm0 ⟨lv, lx, ls, ly, ln⟩ = false := by
              cases hh : isTerm0 ⟨lv, lx, ls, ly, ln⟩ with
              | false => rfl
              | true => exact absurd (isTerm0_eq hh) hl0
            rw [hE, this]; simp]
          have HR0 := Lib.hid hl0
          subst hoe
          clear hE hkb hk3 hk hn hq3 h3 hl0
          rcases h12 with rfl | rfl
          all_goals
            go_enter Tryz.func83, Tryz.ntmps83
            go_wp2_with fail
            all_goals first
              | (go_ret; exact ⟨rfl, (Below.refl w.heap.size w).alloc (Nat.le_refl _) _⟩)
              | (exfalso; have hr := HR0.out; simp_all [term0, bs_list]; done)
      · have hon : ¬ (bs o).toList = [] := by rw [bs_list]; exact hoe
        rw [show mayL ⟨k, ⟨p, la⟩, o, ⟨lv, lx, ls, ly, ln⟩, ⟨rv, rx, rs, ry, rn⟩⟩ = false from by
          have : o.isEmpty = false := by
            cases o with
            | nil => exact absurd rfl hoe
            | cons a b => rfl
          rw [hE, this]; rfl]
        clear hE hkb hk3 hk hn hq3 h3 hoe
        rcases h12 with rfl | rfl
        all_goals
          go_enter Tryz.func83, Tryz.ntmps83
          go_wp2_with fail
          go_ret
          exact ⟨rfl, HB0.out⟩
    · have h1 : (kk == 1) = false := beq_eq_false_iff_ne.2 fun e => h12 (.inl e)
      have h2 : (kk == 2) = false := beq_eq_false_iff_ne.2 fun e => h12 (.inr e)
      rw [show mayL ⟨k, ⟨p, la⟩, o, ⟨lv, lx, ls, ly, ln⟩, ⟨rv, rx, rs, ry, rn⟩⟩ = false from by
        unfold mayL
        rw [if_neg hk3]
        have a1 : ¬ k = 1 := by omega
        have a2 : ¬ k = 2 := by omega
        simp [a1, a2]]
      clear hk hn hk3 h12 h3
      go_enter Tryz.func83, Tryz.ntmps83
      go_wp2_with fail
      go_ret
      exact ⟨rfl, HB0.out⟩
end Go.Proofs.YtminbdcabacfbaaGreatDoor.V

namespace Go.Proofs.YtminbdcabacfbaaGreatDoor.V
set_option linter.unusedVariables false
set_option linter.unusedSimpArgs false
open Go.RowKit

set_option maxRecDepth 100000 in
set_option maxHeartbeats 8000000 in
theorem prTextsT_calls (A : Option Addr) (n c : Nat) (L : List TermL) (w : World) (hn : n = L.length) (hT : TermsRd w A L) (hok : ∀ t ∈ L, TermOk t) (hn2 : n < 1000000000) (hbig : (sepT cmaT (L.map termT)).length ≤ 140737488355328) (hw : TabW w) :
    Calls Tryz.prog 56 #[.slice A n c, .func (.func 24) #[] #[]] w fun e w' => e = .returned (.string (bs (sepT cmaT (L.map termT)))) ∧ Below w.heap.size w w' := by
  have HT := Lib.hid hT
  have HOK := Lib.hid hok
  have HN := Lib.hid hn
  have HBIG := Lib.hid hbig
  have HW := Lib.hid hw
  clear hT hok hn hbig hw
  go_enter Tryz.func56, Tryz.ntmps56
  go_wp2_with fail
  go_loopw [5, 10] (fun v i wr => ∃ (k : Nat) (Ao : Option Addr) (co : Nat), k ≤ n ∧ i = .int .i64 (k : Int) ∧ v = .slice Ao k co ∧ wr.ownsRow w.heap.size 9 1 (.slice Ao k co) k (strV ((L.map termT).take k)) ∧ Below w.heap.size w wr) (fun _ i _ => n + 1 - (intOf i).toNat)
  case atStart => exact ⟨0, none, 0, Nat.zero_le _, rfl, rfl, World.ownsRow_nil _ _ _ _, Below.refl _ _⟩
  case round =>
    obtain ⟨k, Ao, co, hk, rfl, rfl, how, hb⟩ := hrel
    have HOW := Lib.hid how
    have HB := Lib.hid hb
    by_cases hlt : k < n
    · have hd : decide ((k : Int) < (n : Int)) = true := decide_eq_true (by omega)
      obtain ⟨t, hx⟩ : ∃ t, L[k]? = some t := ⟨_, List.getElem?_eq_getElem (by rw [← HN.out]; exact hlt)⟩
      obtain ⟨a, rfl, hh⟩ := HT.out k t hx
      have hh2 := hh.below hb
      have hgt := HOK.out t (List.mem_of_getElem? hx)
      obtain ⟨E, hE⟩ : ∃ E, bs (termT t) = E := ⟨_, rfl⟩
      have HSN := Lib.hid (show strV ((L.map termT).take (k + 1)) = strV ((L.map termT).take k) ++ [.string E] by
        unfold strV
        rw [List.take_add_one, List.map_append, List.getElem?_map, hx, ← hE]
        rfl)
      have HWr := Lib.hid (HW.out.below hb)
      have HTO := Lib.hid (fun (W : World) (h : TabW W) => (show Calls Tryz.prog 24 #[.agg #[.bool t.v, .string (bs t.x), .bool t.s, .string (bs t.t), .int .i64 t.n]] W (fun e w' => e = .returned (.string E) ∧ Below W.heap.size W w') from by rw [← hE]; exact prTerm_calls t W hgt h))
      have d0 := hh2.c0
      have d1 := hh2.c1
      have d2 := hh2.c2
      have d3 := hh2.c3
      have d4 := hh2.c4
      clear how hb hh hh2 hgt hE hx
      go_wp2_with (first
        | (go_at_call 24; ((with_reducible refine (HTO.out _ (HWr.out.below ((Below.refl wr.heap.size wr).alloc (Nat.le_refl _) (.cells #[.bool t.v, .string (bs t.x), .bool t.s, .string (bs t.t), .int .i64 t.n] 45)))).mono ?_); rintro e w2 ⟨rfl, hb2⟩; have HOW2 := Lib.hid (o_kb (HOW.out.alloc (.cells #[.bool t.v, .string (bs t.x), .bool t.s, .string (bs t.t), .int .i64 t.n] 45)) hb2); have HB2 := Lib.hid ((HB.out.alloc HB.out.size (.cells #[.bool t.v, .string (bs t.x), .bool t.s, .string (bs t.t), .int .i64 t.n] 45)).trans (hb2.mono (Nat.le_trans HB.out.size (by simp)))); clear hb2))
        | (refine o_app (W := w2) rfl (.tmp 14) (.tmp 18) 124 9 rfl (.string ⟨#[]⟩) 1 16 Tryz.underlying124 str_info rfl (by decide) (by decide) #[.string E] rfl (by intro u hu; simp at hu; subst hu; rfl) (.slice Ao k co) k (strV ((L.map termT).take k)) (by rfl) HOW2.out (by rfl) (by omega) HB2.out.size ?_; intro A3 c3 w3 how3 hg3; have HOW3 := Lib.hid (show w3.ownsRow w.heap.size 9 1 (.slice A3 (k + 1) c3) (k + 1) (strV ((L.map termT).take (k + 1))) by rw [HSN.out]; exact how3); have HB3 := Lib.hid (HB2.out.grown hg3 HB2.out.size (o_from HOW2.out)); clear how3 hg3))
      go_roundw
      case rel => exact ⟨k + 1, _, _, hlt, by simp, rfl, HOW3.out, HB3.out⟩
      case measure => simp [intOf]; omega
    · have hkn : k = n := by omega
      subst hkn
      have hd : decide ((k : Int) < (k : Int)) = false := decide_eq_false (by omega)
      have hall : (L.map termT).take k = L.map termT := List.take_of_length_le (by rw [List.length_map, ← HN.out]; exact Nat.le_refl _)
      rw [hall] at how
      have HOW := Lib.hid how
      have HJ := Lib.hid (show Calls Tryz.prog 74 #[.slice Ao k co, .string ⟨#[44, 32]⟩] wr (fun e w' => e = .returned (.string (bs (sepT cmaT (L.map termT)))) ∧ Below wr.heap.size wr w') from by
        have h := sjoin_calls Ao k co ((L.map termT).map bs) ⟨#[44, 32]⟩ wr (by rw [List.length_map, List.length_map]; exact HN.out) (strs_own how (by rw [List.length_map]; exact HN.out)) (by rw [txs_bs]; exact HBIG.out) (by omega) (own_cap how)
        rw [txs_bs] at h
        exact h)
      clear hb hlt hk how hall
      go_wp2_with (go_at_call 74; ((with_reducible refine HJ.out.mono ?_); rintro e w2 ⟨rfl, hb2⟩; have HB2 := Lib.hid (HB.out.trans (hb2.mono HB.out.size)); clear hb2))
      go_ret
      exact ⟨rfl, HB2.out⟩
end Go.Proofs.YtminbdcabacfbaaGreatDoor.V

namespace Go.Proofs.YtminbdcabacfbaaGreatDoor.V
set_option linter.unusedVariables false
set_option linter.unusedSimpArgs false
open Go.RowKit

set_option maxRecDepth 100000 in
set_option maxHeartbeats 4000000 in
theorem tog_calls (A : Option Addr) (n c : Nat) (L : List ByteArray) (w : World) (hn : n = L.length) (hT : StrsAt w A L) (hbig : ((txs L).flatten).length ≤ 140737488355328) (hn2 : n ≤ 140737488355328) (hc : n ≤ c) :
    Calls Tryz.prog 40 #[.slice A n c] w fun e w' => e = .returned (.string (bs (txs L).flatten)) ∧ Below w.heap.size w w' := by
  have HJ := Lib.hid (show Calls Tryz.prog 74 #[.slice A n c, .string ⟨#[]⟩] w (fun e w' => e = .returned (.string (bs (txs L).flatten)) ∧ Below w.heap.size w w') from by
    have h := sjoin_calls A n c L ⟨#[]⟩ w hn hT (by rw [show (⟨#[]⟩ : ByteArray).data.toList = [] from rfl, sepT_none]; exact hbig) hn2 hc
    rw [show (⟨#[]⟩ : ByteArray).data.toList = [] from rfl, sepT_none] at h
    exact h)
  clear hT hbig hn
  go_enter Tryz.func40, Tryz.ntmps40
  go_wp2_with (go_at_call 74; ((with_reducible refine HJ.out.mono ?_); rintro e w2 ⟨rfl, hb2⟩; have HB2 := Lib.hid hb2; clear hb2))
  go_ret
  exact ⟨rfl, HB2.out⟩
/-- At texts that have just been laid. -/
theorem tog_new (L : List ByteArray) (W : World) (hbig : ((txs L).flatten).length ≤ 140737488355328) (hn : L.length ≤ 1000) :
    Calls Tryz.prog 40 #[.slice (some ⟨W.heap.size, 0, none⟩) L.length L.length] (W.alloc (.cells (L.map Value.string).toArray 9)) fun e w' => e = .returned (.string (bs (txs L).flatten)) ∧ Below W.heap.size W w' := by
  refine (tog_calls _ _ _ L _ rfl ?_ hbig (by omega) (Nat.le_refl _)).mono ?_
  · intro j x hx
    refine ⟨_, rfl, ?_⟩
    exact o_cells (L.map Value.string).toArray 9 j (.string x) (by simp [hx])
  · rintro e w' ⟨rfl, hb⟩
    exact ⟨rfl, ((Below.refl W.heap.size W).alloc (Nat.le_refl _) _).trans (hb.mono (by simp))⟩

set_option maxRecDepth 100000 in
set_option maxHeartbeats 8000000 in
theorem prAtom_calls (A : Option Addr) (n c : Nat) (x : AtomL) (w : World) (hn : n = x.a.length) (hT : TermsRd w A x.a) (hok : AtomOk x) (hbig : (atomT x).length ≤ 140737488355328) (hw : TabW w) :
    Calls Tryz.prog 26 #[.agg #[.string (bs x.p), .slice A n c]] w fun e w' => e = .returned (.string (bs (atomT x))) ∧ Below w.heap.size w w' := by
  obtain ⟨p, l⟩ := x
  dsimp only at hn hT
  have hbl := (Below.refl w.heap.size w).alloc (Nat.le_refl _) (.cells #[.string (bs p), .slice A n c] 25)
  have hnw := heap_alloc_new w (.cells #[.string (bs p), .slice A n c] 25)
  by_cases h0 : n = 0
  · have h00 : l = [] := List.length_eq_zero_iff.1 (by omega)
    have HE := Lib.hid (show atomT ⟨p, l⟩ = p from if_pos h00)
    have HB := Lib.hid hbl
    clear hn hT hok hbig hw h00 hbl hnw
    subst h0
    go_enter Tryz.func26, Tryz.ntmps26
    go_wp2_with fail
    go_ret
    exact ⟨by rw [HE.out]; rfl, HB.out⟩
  · have h00 : l ≠ [] := fun e => by subst e; exact h0 (by simpa using hn)
    have hE : atomT ⟨p, l⟩ = p ++ [40] ++ sepT cmaT (l.map termT) ++ [41] := if_neg h00
    rw [hE] at hbig
    obtain ⟨E, hEE⟩ : ∃ E, bs (sepT cmaT (l.map termT)) = E := ⟨_, rfl⟩
    have HTX := Lib.hid (fun (W : World) (h : TermsRd W A l) (hw : TabW W) => (show Calls Tryz.prog 56 #[.slice A n c, .func (.func 24) #[] #[]] W (fun e w' => e = .returned (.string E) ∧ Below W.heap.size W w') from by
      rw [← hEE]
      exact prTextsT_calls A n c l W hn h hok.2 (by rw [hn]; exact hok.1) (by simp only [List.length_append] at hbig; omega) hw))
    have HTG := Lib.hid (fun (W : World) => (show Calls Tryz.prog 40 #[.slice (some ⟨W.heap.size, 0, none⟩) 4 4] (W.alloc (.cells #[.string (bs p), .string ⟨#[40]⟩, .string E, .string ⟨#[41]⟩] 9)) (fun e w' => e = .returned (.string (bs (atomT ⟨p, l⟩))) ∧ Below W.heap.size W w') from by
      have h := tog_new [bs p, bs [40], E, bs [41]] W (by rw [← hEE]; simpa [txs, bs_data] using hbig) (by simp)
      have e1 : (txs [bs p, bs [40], E, bs [41]]).flatten = atomT ⟨p, l⟩ := by rw [hE, ← hEE]; simp [txs, bs_data]
      rw [e1] at h
      exact h))
    have HT0 := Lib.hid (hT.below hbl.drew)
    have HW0 := Lib.hid (hw.below hbl.drew)
    have HB0 := Lib.hid hbl.drew
    have hnn : ((n : Int) == 0) = false := beq_eq_false_iff_ne.2 (by omega)
    have d0 := cell_of_row _ _ 0 _ _ _ hnw
    have d1 := cell_of_row _ _ 1 _ _ _ hnw
    have D0 := Lib.hid d0
    clear hn hT hok hbig hw h00 hbl hnw hE hEE
    go_enter Tryz.func26, Tryz.ntmps26
    go_wp2_with fail
    go_region_with (first
      | (go_at_call 56; ((with_reducible refine (HTX.out _ HT0.out HW0.out).mono ?_); rintro e w2 ⟨rfl, hb2⟩; have e0 := cell_below hb2 (show World.cell? _ _ = _ from D0.out); have HB2 := Lib.hid (HB0.out.trans (hb2.mono HB0.out.size)); clear hb2))
      | (go_at_call 40; ((with_reducible refine (HTG.out w2).mono ?_); rintro e w3 ⟨rfl, hb3⟩; have HB3 := Lib.hid (HB2.out.trans (hb3.mono HB2.out.size)); clear hb3)))
    all_goals
      go_wp2_with fail
      go_ret
      exact ⟨rfl, HB3.out⟩
end Go.Proofs.YtminbdcabacfbaaGreatDoor.V

namespace Go.Proofs.YtminbdcabacfbaaGreatDoor.V
set_option linter.unusedVariables false
set_option linter.unusedSimpArgs false
open Go.RowKit

set_option maxRecDepth 100000 in
set_option maxHeartbeats 16000000 in
theorem prLit_calls (A : Option Addr) (n c : Nat) (kk : Int) (x : LitL) (w : World) (hk : kk.toNat = x.k) (hn : n = x.a.a.length) (hT : TermsRd w A x.a.a) (hok : LitOk' x) (hbig : (litT x).length ≤ 140737488355328) (hw : TabW w) :
    Calls Tryz.prog 22 #[.agg #[.int .i64 kk, .string (bs x.a.p), .slice A n c, .string (bs x.o), .bool x.l.v, .string (bs x.l.x), .bool x.l.s, .string (bs x.l.t), .int .i64 x.l.n, .bool x.r.v, .string (bs x.r.x), .bool x.r.s, .string (bs x.r.t), .int .i64 x.r.n]] w fun e w' => e = .returned (.string (bs (litT x))) ∧ Below w.heap.size w w' := by
  obtain ⟨k, ⟨p, la⟩, o, l, r⟩ := x
  dsimp only at hn hT hk ⊢
  have hbl := (Below.refl w.heap.size w).alloc (Nat.le_refl _) (.cells #[.int .i64 kk, .string (bs p), .slice A n c, .string (bs o), .bool l.v, .string (bs l.x), .bool l.s, .string (bs l.t), .int .i64 l.n, .bool r.v, .string (bs r.x), .bool r.s, .string (bs r.t), .int .i64 r.n] 47)
  have hnw := heap_alloc_new w (.cells #[.int .i64 kk, .string (bs p), .slice A n c, .string (bs o), .bool l.v, .string (bs l.x), .bool l.s, .string (bs l.t), .int .i64 l.n, .bool r.v, .string (bs r.x), .bool r.s, .string (bs r.t), .int .i64 r.n] 47)
  have HB0 := Lib.hid hbl
  have HBD := Lib.hid hbl.drew
  have HT0 := Lib.hid (hT.below hbl)
  have HW0 := Lib.hid (hw.below hbl)
  have HWD := Lib.hid (hw.below hbl.drew)
  have d0 := cell_of_row _ _ 0 _ _ _ hnw
  have d1 := cell_of_row _ _ 1 _ _ _ hnw
  have d2 := cell_of_row _ _ 2 _ _ _ hnw
  have d3 := cell_of_row _ _ 3 _ _ _ hnw
  have HNW := Lib.hid hnw
  clear hbl hnw
  by_cases h1 : kk = 1
  · subst h1
    have hk1 : k = 1 := hk.symm
    have hE : litT ⟨k, ⟨p, la⟩, o, l, r⟩ = atomT ⟨p, la⟩ := if_pos hk1
    rw [hE] at hbig ⊢
    have HAT := Lib.hid (fun (W : World) (h : TermsRd W A la) (hw : TabW W) => (show Calls Tryz.prog 26 #[.agg #[.string (bs p), .slice A n c]] W (fun e w' => e = .returned (.string (bs (atomT ⟨p, la⟩))) ∧ Below W.heap.size W w') from prAtom_calls A n c ⟨p, la⟩ W hn h hok.1 hbig hw))
    clear hk hn hT hok hbig hw hE
    go_enter Tryz.func22, Tryz.ntmps22
    go_wp2_with (go_at_call 26; ((with_reducible refine (HAT.out _ HT0.out HW0.out).mono ?_); rintro e w2 ⟨rfl, hb2⟩; have HB2 := Lib.hid (HB0.out.trans (hb2.mono HB0.out.size)); clear hb2))
    go_ret
    exact ⟨rfl, HB2.out⟩
  · have hq1 : (kk == 1) = false := beq_eq_false_iff_ne.2 h1
    by_cases h2 : kk = 2
    · subst h2
      have hk1 : k = 2 := hk.symm
      have hE : litT ⟨k, ⟨p, la⟩, o, l, r⟩ = [110, 111, 116, 32] ++ atomT ⟨p, la⟩ := by unfold litT; rw [if_neg (show ¬ k = 1 by omega), if_pos hk1]
      rw [hE] at hbig
      obtain ⟨E, hEE⟩ : ∃ E, bs (atomT ⟨p, la⟩) = E := ⟨_, rfl⟩
      have HAT := Lib.hid (fun (W : World) (h : TermsRd W A la) (hw : TabW W) => (show Calls Tryz.prog 26 #[.agg #[.string (bs p), .slice A n c]] W (fun e w' => e = .returned (.string E) ∧ Below W.heap.size W w') from by rw [← hEE]; exact prAtom_calls A n c ⟨p, la⟩ W hn h hok.1 (by simp only [List.length_append] at hbig; omega) hw))
      have HTG := Lib.hid (fun (W : World) => (show Calls Tryz.prog 40 #[.slice (some ⟨W.heap.size, 0, none⟩) 2 2] (W.alloc (.cells #[.string ⟨#[110, 111, 116, 32]⟩, .string E] 9)) (fun e w' => e = .returned (.string (bs (litT ⟨k, ⟨p, la⟩, o, l, r⟩))) ∧ Below W.heap.size W w') from by
        have h := tog_new [bs [110, 111, 116, 32], E] W (by rw [← hEE]; simpa [txs, bs_data] using hbig) (by simp)
        have e1 : (txs [bs [110, 111, 116, 32], E]).flatten = litT ⟨k, ⟨p, la⟩, o, l, r⟩ := by rw [hE, ← hEE]; simp [txs, bs_data]
        rw [e1] at h
        exact h))
      clear hk hn hT hok hbig hw hE hEE hk1
      go_enter Tryz.func22, Tryz.ntmps22
      go_wp2_with (first
        | (go_at_call 26; ((with_reducible refine (HAT.out _ HT0.out HW0.out).mono ?_); rintro e w2 ⟨rfl, hb2⟩; have HB2 := Lib.hid (HB0.out.trans (hb2.mono HB0.out.size)); clear hb2))
        | (go_at_call 40; ((with_reducible refine (HTG.out w2).mono ?_); rintro e w3 ⟨rfl, hb3⟩; have HB3 := Lib.hid (HB2.out.trans (hb3.mono HB2.out.size)); clear hb3)))
      go_ret
      exact ⟨rfl, HB3.out⟩
    · have hq2 : (kk == 2) = false := beq_eq_false_iff_ne.2 h2
      by_cases h3 : kk = 3
      · subst h3
        have hk1 : k = 3 := hk.symm
        have hE : litT ⟨k, ⟨p, la⟩, o, l, r⟩ = termT l ++ [32] ++ o ++ [32] ++ termT r := by unfold litT; rw [if_neg (show ¬ k = 1 by omega), if_neg (show ¬ k = 2 by omega), if_pos hk1]
        rw [hE] at hbig
        obtain ⟨E1, hE1⟩ : ∃ E, bs (termT l) = E := ⟨_, rfl⟩
        obtain ⟨E2, hE2⟩ : ∃ E, bs (termT r) = E := ⟨_, rfl⟩
        have HTL := Lib.hid (fun (W : World) (h : TabW W) => (show Calls Tryz.prog 24 #[.agg #[.bool l.v, .string (bs l.x), .bool l.s, .string (bs l.t), .int .i64 l.n]] W (fun e w' => e = .returned (.string E1) ∧ Below W.heap.size W w') from by rw [← hE1]; exact prTerm_calls l W hok.2.1 h))
        have HTR := Lib.hid (fun (W : World) (h : TabW W) => (show Calls Tryz.prog 24 #[.agg #[.bool r.v, .string (bs r.x), .bool r.s, .string (bs r.t), .int .i64 r.n]] W (fun e w' => e = .returned (.string E2) ∧ Below W.heap.size W w') from by rw [← hE2]; exact prTerm_calls r W hok.2.2 h))
        have HTG := Lib.hid (fun (W : World) => (show Calls Tryz.prog 40 #[.slice (some ⟨W.heap.size, 0, none⟩) 5 5] (W.alloc (.cells #[.string E1, .string ⟨#[32]⟩, .string (bs o), .string ⟨#[32]⟩, .string E2] 9)) (fun e w' => e = .returned (.string (bs (litT ⟨k, ⟨p, la⟩, o, l, r⟩))) ∧ Below W.heap.size W w') from by
          have h := tog_new [E1, bs [32], bs o, bs [32], E2] W (by rw [← hE1, ← hE2]; simpa [txs, bs_data] using hbig) (by simp)
          have e1 : (txs [E1, bs [32], bs o, bs [32], E2]).flatten = litT ⟨k, ⟨p, la⟩, o, l, r⟩ := by rw [hE, ← hE1, ← hE2]; simp [txs, bs_data]
          rw [e1] at h
          exact h))
        have d4 := cell_of_row _ _ 4 _ _ _ HNW.out
        have d5 := cell_of_row _ _ 5 _ _ _ HNW.out
        have d6 := cell_of_row _ _ 6 _ _ _ HNW.out
        have d7 := cell_of_row _ _ 7 _ _ _ HNW.out
        have d8 := cell_of_row _ _ 8 _ _ _ HNW.out
        have d9 := cell_of_row _ _ 9 _ _ _ HNW.out
        have d10 := cell_of_row _ _ 10 _ _ _ HNW.out
        have d11 := cell_of_row _ _ 11 _ _ _ HNW.out
        have d12 := cell_of_row _ _ 12 _ _ _ HNW.out
        have d13 := cell_of_row _ _ 13 _ _ _ HNW.out
        clear hk hn hT hok hbig hw hE hE1 hE2 hk1
        go_enter Tryz.func22, Tryz.ntmps22
        go_wp2_with fail
        go_region_with (first
          | (go_at_call 24; ((with_reducible refine (HTL.out _ HWD.out).mono ?_); rintro e w2 ⟨rfl, hb2⟩; have HD2 := Lib.hid (show w2.heap[w.heap.size]? = some (.cells #[.int .i64 3, .string (bs p), .slice A n c, .string (bs o), .bool l.v, .string (bs l.x), .bool l.s, .string (bs l.t), .int .i64 l.n, .bool r.v, .string (bs r.x), .bool r.s, .string (bs r.t), .int .i64 r.n] 47 (0, 0)) from (hb2.block w.heap.size (by rw [World.size_drew, World.size_alloc]; omega)).trans HNW.out); have HB2 := Lib.hid (HBD.out.trans (hb2.mono HBD.out.size)); have HW2 := Lib.hid (HWD.out.below hb2); have e3 := cell_of_row _ _ 3 _ _ _ HD2.out; have e9 := cell_of_row _ _ 9 _ _ _ HD2.out; have e10 := cell_of_row _ _ 10 _ _ _ HD2.out; have e11 := cell_of_row _ _ 11 _ _ _ HD2.out; have e12 := cell_of_row _ _ 12 _ _ _ HD2.out; have e13 := cell_of_row _ _ 13 _ _ _ HD2.out; clear hb2))
          | (go_at_call 24; ((with_reducible refine (HTR.out _ HW2.out).mono ?_); rintro e w3 ⟨rfl, hb3⟩; have HB3 := Lib.hid (HB2.out.trans (hb3.mono HB2.out.size)); have f3 := cell_below hb3 e3; clear hb3))
          | (go_at_call 40; ((with_reducible refine (HTG.out w3).mono ?_); rintro e w4 ⟨rfl, hb4⟩; have HB4 := Lib.hid (HB3.out.trans (hb4.mono HB3.out.size)); clear hb4)))
        all_goals
          go_wp2_with fail
          go_ret
          exact ⟨rfl, HB4.out⟩
      · have hq3 : (kk == 3) = false := beq_eq_false_iff_ne.2 h3
        have hE : litT ⟨k, ⟨p, la⟩, o, l, r⟩ = [] := by unfold litT; rw [if_neg (show ¬ k = 1 by omega), if_neg (show ¬ k = 2 by omega), if_neg (show ¬ k = 3 by omega)]
        rw [hE]
        clear hk hn hT hok hbig hw hE h1 h2 h3
        go_enter Tryz.func22, Tryz.ntmps22
        go_wp2_with fail
        go_ret
        exact ⟨rfl, HB0.out⟩
end Go.Proofs.YtminbdcabacfbaaGreatDoor.V

namespace Go.Proofs.YtminbdcabacfbaaGreatDoor.V
set_option linter.unusedVariables false
set_option linter.unusedSimpArgs false
open Go.RowKit

theorem sepT_mem (m : List UInt8) {x : List UInt8} : ∀ {L : List (List UInt8)}, x ∈ L → x.length ≤ (sepT m L).length
  | [], h => by cases h
  | [y], h => by rw [List.mem_singleton.1 h]; exact Nat.le_refl _
  | y :: z :: r, h => by
    rw [sepT, List.length_append, List.length_append]
    rcases List.mem_cons.1 h with rfl | h
    · omega
    · have := sepT_mem m h
      omega
/-- A literal's cells. -/
theorem LitHere.open {w : World} {a : Addr} {l : LitL} (h : LitHere w a l) : ∃ (kk : Int) (A : Option Addr) (n c : Nat), kk.toNat = l.k ∧ n = l.a.a.length ∧ n ≤ c ∧ TermsRd w A l.a.a ∧
    w.cell? a = some (.int .i64 kk) ∧ w.cell? ⟨a.block, a.off + 1, none⟩ = some (.string (bs l.a.p)) ∧ w.cell? ⟨a.block, a.off + 2, none⟩ = some (.slice A n c) ∧ w.cell? ⟨a.block, a.off + 3, none⟩ = some (.string (bs l.o)) ∧
    w.cell? ⟨a.block, a.off + 4, none⟩ = some (.bool l.l.v) ∧ w.cell? ⟨a.block, a.off + 5, none⟩ = some (.string (bs l.l.x)) ∧ w.cell? ⟨a.block, a.off + 6, none⟩ = some (.bool l.l.s) ∧ w.cell? ⟨a.block, a.off + 7, none⟩ = some (.string (bs l.l.t)) ∧ w.cell? ⟨a.block, a.off + 8, none⟩ = some (.int .i64 l.l.n) ∧
    w.cell? ⟨a.block, a.off + 9, none⟩ = some (.bool l.r.v) ∧ w.cell? ⟨a.block, a.off + 10, none⟩ = some (.string (bs l.r.x)) ∧ w.cell? ⟨a.block, a.off + 11, none⟩ = some (.bool l.r.s) ∧ w.cell? ⟨a.block, a.off + 12, none⟩ = some (.string (bs l.r.t)) ∧ w.cell? ⟨a.block, a.off + 13, none⟩ = some (.int .i64 l.r.n) := by
  obtain ⟨⟨kk, h0, hk⟩, ⟨A, n, c, hn, hc, h1, h2, ht⟩, h3, h4, h9⟩ := h
  exact ⟨kk, A, n, c, hk, hn, hc, ht, h0, h1, h2, h3, h4.c0, h4.c1, h4.c2, h4.c3, h4.c4, h9.c0, h9.c1, h9.c2, h9.c3, h9.c4⟩

set_option maxRecDepth 100000 in
set_option maxHeartbeats 8000000 in
theorem prTextsL_calls (A : Option Addr) (n c : Nat) (L : List LitL) (w : World) (hn : n = L.length) (hT : LitsRd w A L) (hok : ∀ t ∈ L, LitOk' t) (hn2 : n < 1000000000) (hbig : (sepT cmaT (L.map litT)).length ≤ 140737488355328) (hw : TabW w) :
    Calls Tryz.prog 57 #[.slice A n c, .func (.func 22) #[] #[]] w fun e w' => e = .returned (.string (bs (sepT cmaT (L.map litT)))) ∧ Below w.heap.size w w' := by
  have HT := Lib.hid hT
  have HOK := Lib.hid hok
  have HN := Lib.hid hn
  have HBIG := Lib.hid hbig
  have HW := Lib.hid hw
  clear hT hok hn hbig hw
  go_enter Tryz.func57, Tryz.ntmps57
  go_wp2_with fail
  go_loopw [5, 10] (fun v i wr => ∃ (k : Nat) (Ao : Option Addr) (co : Nat), k ≤ n ∧ i = .int .i64 (k : Int) ∧ v = .slice Ao k co ∧ wr.ownsRow w.heap.size 9 1 (.slice Ao k co) k (strV ((L.map litT).take k)) ∧ Below w.heap.size w wr) (fun _ i _ => n + 1 - (intOf i).toNat)
  case atStart => exact ⟨0, none, 0, Nat.zero_le _, rfl, rfl, World.ownsRow_nil _ _ _ _, Below.refl _ _⟩
  case round =>
    obtain ⟨k, Ao, co, hk, rfl, rfl, how, hb⟩ := hrel
    have HOW := Lib.hid how
    have HB := Lib.hid hb
    by_cases hlt : k < n
    · have hd : decide ((k : Int) < (n : Int)) = true := decide_eq_true (by omega)
      obtain ⟨t, hx⟩ : ∃ t, L[k]? = some t := ⟨_, List.getElem?_eq_getElem (by rw [← HN.out]; exact hlt)⟩
      obtain ⟨a, rfl, hh⟩ := HT.out k t hx
      have hh2 := hh.below hb
      have hgt := HOK.out t (List.mem_of_getElem? hx)
      obtain ⟨E, hE⟩ : ∃ E, bs (litT t) = E := ⟨_, rfl⟩
      have HSN := Lib.hid (show strV ((L.map litT).take (k + 1)) = strV ((L.map litT).take k) ++ [.string E] by
        unfold strV
        rw [List.take_add_one, List.map_append, List.getElem?_map, hx, ← hE]
        rfl)
      have HWr := Lib.hid (HW.out.below hb)
      obtain ⟨kk, Aa, na, ca, hkk, hna, hnca, htr, d0, d1, d2, d3, d4, d5, d6, d7, d8, d9, d10, d11, d12, d13⟩ := hh2.open
      have hlb : (litT t).length ≤ 140737488355328 := by
        have h1 := HBIG.out
        have h2 := sepT_mem cmaT (List.mem_map_of_mem (f := litT) (List.mem_of_getElem? hx))
        omega
      have HTO := Lib.hid (fun (W : World) (h : TermsRd W Aa t.a.a) (hw : TabW W) => (show Calls Tryz.prog 22 #[.agg #[.int .i64 kk, .string (bs t.a.p), .slice Aa na ca, .string (bs t.o), .bool t.l.v, .string (bs t.l.x), .bool t.l.s, .string (bs t.l.t), .int .i64 t.l.n, .bool t.r.v, .string (bs t.r.x), .bool t.r.s, .string (bs t.r.t), .int .i64 t.r.n]] W (fun e w' => e = .returned (.string E) ∧ Below W.heap.size W w') from by rw [← hE]; exact prLit_calls Aa na ca kk t W hkk hna h hgt hlb hw))
      have HTR := Lib.hid htr
      clear hkk hna hnca htr hlb
      clear how hb hh hh2 hgt hE hx
      go_wp2_with (first
        | (go_at_call 22; ((with_reducible refine (HTO.out _ (HTR.out.below ((Below.refl wr.heap.size wr).alloc (Nat.le_refl _) (.cells #[.int .i64 kk, .string (bs t.a.p), .slice Aa na ca, .string (bs t.o), .bool t.l.v, .string (bs t.l.x), .bool t.l.s, .string (bs t.l.t), .int .i64 t.l.n, .bool t.r.v, .string (bs t.r.x), .bool t.r.s, .string (bs t.r.t), .int .i64 t.r.n] 47))) (HWr.out.below ((Below.refl wr.heap.size wr).alloc (Nat.le_refl _) (.cells #[.int .i64 kk, .string (bs t.a.p), .slice Aa na ca, .string (bs t.o), .bool t.l.v, .string (bs t.l.x), .bool t.l.s, .string (bs t.l.t), .int .i64 t.l.n, .bool t.r.v, .string (bs t.r.x), .bool t.r.s, .string (bs t.r.t), .int .i64 t.r.n] 47)))).mono ?_); rintro e w2 ⟨rfl, hb2⟩; have HOW2 := Lib.hid (o_kb (HOW.out.alloc (.cells #[.int .i64 kk, .string (bs t.a.p), .slice Aa na ca, .string (bs t.o), .bool t.l.v, .string (bs t.l.x), .bool t.l.s, .string (bs t.l.t), .int .i64 t.l.n, .bool t.r.v, .string (bs t.r.x), .bool t.r.s, .string (bs t.r.t), .int .i64 t.r.n] 47)) hb2); have HB2 := Lib.hid ((HB.out.alloc HB.out.size (.cells #[.int .i64 kk, .string (bs t.a.p), .slice Aa na ca, .string (bs t.o), .bool t.l.v, .string (bs t.l.x), .bool t.l.s, .string (bs t.l.t), .int .i64 t.l.n, .bool t.r.v, .string (bs t.r.x), .bool t.r.s, .string (bs t.r.t), .int .i64 t.r.n] 47)).trans (hb2.mono (Nat.le_trans HB.out.size (by simp)))); clear hb2))
        | (refine o_app (W := w2) rfl (.tmp 14) (.tmp 18) 124 9 rfl (.string ⟨#[]⟩) 1 16 Tryz.underlying124 str_info rfl (by decide) (by decide) #[.string E] rfl (by intro u hu; simp at hu; subst hu; rfl) (.slice Ao k co) k (strV ((L.map litT).take k)) (by rfl) HOW2.out (by rfl) (by omega) HB2.out.size ?_; intro A3 c3 w3 how3 hg3; have HOW3 := Lib.hid (show w3.ownsRow w.heap.size 9 1 (.slice A3 (k + 1) c3) (k + 1) (strV ((L.map litT).take (k + 1))) by rw [HSN.out]; exact how3); have HB3 := Lib.hid (HB2.out.grown hg3 HB2.out.size (o_from HOW2.out)); clear how3 hg3))
      go_roundw
      case rel => exact ⟨k + 1, _, _, hlt, by simp, rfl, HOW3.out, HB3.out⟩
      case measure => simp [intOf]; omega
    · have hkn : k = n := by omega
      subst hkn
      have hd : decide ((k : Int) < (k : Int)) = false := decide_eq_false (by omega)
      have hall : (L.map litT).take k = L.map litT := List.take_of_length_le (by rw [List.length_map, ← HN.out]; exact Nat.le_refl _)
      rw [hall] at how
      have HOW := Lib.hid how
      have HJ := Lib.hid (show Calls Tryz.prog 74 #[.slice Ao k co, .string ⟨#[44, 32]⟩] wr (fun e w' => e = .returned (.string (bs (sepT cmaT (L.map litT)))) ∧ Below wr.heap.size wr w') from by
        have h := sjoin_calls Ao k co ((L.map litT).map bs) ⟨#[44, 32]⟩ wr (by rw [List.length_map, List.length_map]; exact HN.out) (strs_own how (by rw [List.length_map]; exact HN.out)) (by rw [txs_bs]; exact HBIG.out) (by omega) (own_cap how)
        rw [txs_bs] at h
        exact h)
      clear hb hlt hk how hall
      go_wp2_with (go_at_call 74; ((with_reducible refine HJ.out.mono ?_); rintro e w2 ⟨rfl, hb2⟩; have HB2 := Lib.hid (HB.out.trans (hb2.mono HB.out.size)); clear hb2))
      go_ret
      exact ⟨rfl, HB2.out⟩
end Go.Proofs.YtminbdcabacfbaaGreatDoor.V

namespace Go.Proofs.YtminbdcabacfbaaGreatDoor.V
set_option linter.unusedVariables false
set_option linter.unusedSimpArgs false
open Go.RowKit

set_option maxRecDepth 100000 in
set_option maxHeartbeats 4000000 in
theorem allCL_calls (kk : Int) (Aa : Option Addr) (na ca : Nat) (t : LitL) (r : Nat) (w : World) (hr : w.cell? ⟨r, 0, none⟩ = some (.func (.func 83) #[] #[])) (hkk : kk.toNat = t.k) (hna : na = t.a.a.length) (htr : TermsRd w Aa t.a.a) (hs : LitSz t) :
    Calls Tryz.prog 113 #[.agg #[.int .i64 kk, .string (bs t.a.p), .slice Aa na ca, .string (bs t.o), .bool t.l.v, .string (bs t.l.x), .bool t.l.s, .string (bs t.l.t), .int .i64 t.l.n, .bool t.r.v, .string (bs t.r.x), .bool t.r.s, .string (bs t.r.t), .int .i64 t.r.n], .pointer (some ⟨r, 0, none⟩)] w fun e w' => e = .returned (.bool (!(mayL t))) ∧ Below w.heap.size w w' := by
  have hbl := (Below.refl w.heap.size w).alloc (Nat.le_refl _) (.cells #[.int .i64 kk, .string (bs t.a.p), .slice Aa na ca, .string (bs t.o), .bool t.l.v, .string (bs t.l.x), .bool t.l.s, .string (bs t.l.t), .int .i64 t.l.n, .bool t.r.v, .string (bs t.r.x), .bool t.r.s, .string (bs t.r.t), .int .i64 t.r.n] 47)
  have hnw := heap_alloc_new w (.cells #[.int .i64 kk, .string (bs t.a.p), .slice Aa na ca, .string (bs t.o), .bool t.l.v, .string (bs t.l.x), .bool t.l.s, .string (bs t.l.t), .int .i64 t.l.n, .bool t.r.v, .string (bs t.r.x), .bool t.r.s, .string (bs t.r.t), .int .i64 t.r.n] 47)
  have HB0 := Lib.hid hbl
  have hr1 := cell_below hbl hr
  have HT0 := Lib.hid (htr.below hbl)
  have d0 := cell_of_row _ _ 0 _ _ _ hnw
  have d1 := cell_of_row _ _ 1 _ _ _ hnw
  have d2 := cell_of_row _ _ 2 _ _ _ hnw
  have d3 := cell_of_row _ _ 3 _ _ _ hnw
  have d4 := cell_of_row _ _ 4 _ _ _ hnw
  have d5 := cell_of_row _ _ 5 _ _ _ hnw
  have d6 := cell_of_row _ _ 6 _ _ _ hnw
  have d7 := cell_of_row _ _ 7 _ _ _ hnw
  have d8 := cell_of_row _ _ 8 _ _ _ hnw
  have d9 := cell_of_row _ _ 9 _ _ _ hnw
  have d10 := cell_of_row _ _ 10 _ _ _ hnw
  have d11 := cell_of_row _ _ 11 _ _ _ hnw
  have d12 := cell_of_row _ _ 12 _ _ _ hnw
  have d13 := cell_of_row _ _ 13 _ _ _ hnw
  have HF := Lib.hid (fun (W : World) (h : TermsRd W Aa t.a.a) => prMayL_calls kk Aa na ca t W hkk hna h hs)
  clear hbl hnw hr hs hkk hna htr
  go_enter Tryz.func113, Tryz.ntmps113
  go_wp2_with (go_at_call 83; ((with_reducible refine (HF.out _ HT0.out).mono ?_); rintro e w2 ⟨rfl, hb2⟩; have HB2 := Lib.hid (HB0.out.trans (hb2.mono HB0.out.size)); clear hb2))
  go_ret
  exact ⟨rfl, HB2.out⟩

set_option maxRecDepth 100000 in
set_option maxHeartbeats 8000000 in
theorem allIL_calls (A : Option Addr) (n c r : Nat) (L : List LitL) (w : World) (hr : w.cell? ⟨r, 0, none⟩ = some (.func (.func 83) #[] #[])) (hn : n = L.length) (hT : LitsRd w A L) (hok : ∀ t ∈ L, LitSz t) (hn2 : n < 1000000000) :
    Calls Tryz.prog 140 #[.slice A n c, .func (.func 113) #[] #[.pointer (some ⟨r, 0, none⟩)]] w fun e w' => ∃ k : Int, e = .returned (.int .i64 k) ∧ decide (0 ≤ k) = !(L.all mayL) ∧ Below w.heap.size w w' := by
  have HT := Lib.hid hT
  have HOK := Lib.hid hok
  have HN := Lib.hid hn
  have HR := Lib.hid hr
  clear hT hok hn hr
  go_enter Tryz.func140, Tryz.ntmps140
  go_wp2_with fail
  go_loopw [8] (fun i wr => ∃ k : Nat, k ≤ n ∧ i = .int .i64 (k : Int) ∧ (L.take k).all mayL = true ∧ Below w.heap.size w wr) (fun i _ => n + 1 - (intOf i).toNat)
  case atStart => exact ⟨0, Nat.zero_le _, rfl, rfl, Below.refl _ _⟩
  case round =>
    obtain ⟨k, hk, rfl, hall, hb⟩ := hrel
    have HB := Lib.hid hb
    by_cases hlt : k < n
    · have hd : decide ((k : Int) < (n : Int)) = true := decide_eq_true (by omega)
      obtain ⟨t, hx⟩ : ∃ t, L[k]? = some t := ⟨_, List.getElem?_eq_getElem (by rw [← HN.out]; exact hlt)⟩
      obtain ⟨a, rfl, hh⟩ := HT.out k t hx
      have hh2 := hh.below hb
      have hgt := HOK.out t (List.mem_of_getElem? hx)
      have hsn : (L.take (k + 1)).all mayL = mayL t := by
        rw [List.take_add_one, List.all_append, hall, hx]
        simp
      have hmt : t ∈ L := List.mem_of_getElem? hx
      have HRr := Lib.hid (cell_below hb HR.out)
      obtain ⟨kk, Aa, na, ca, hkk, hna, hnca, htr, d0, d1, d2, d3, d4, d5, d6, d7, d8, d9, d10, d11, d12, d13⟩ := hh2.open
      have HC := Lib.hid (fun (W : World) (hr : W.cell? ⟨r, 0, none⟩ = some (.func (.func 83) #[] #[])) (h : TermsRd W Aa t.a.a) => allCL_calls kk Aa na ca t r W hr hkk hna h hgt)
      have HTR := Lib.hid htr
      clear hkk hna hnca htr
      cases hv : mayL t with
      | true =>
        rw [hv] at hsn
        have HV := Lib.hid hv
        have HSN := Lib.hid hsn
        clear hb hh hh2 hgt hx hall hv hsn hmt
        go_wp2_with (go_at_call 113; ((with_reducible refine (HC.out _ HRr.out HTR.out).mono ?_); rw [HV.out]; rintro e w2 ⟨rfl, hb2⟩; have HB2 := Lib.hid (HB.out.trans (hb2.mono HB.out.size)); clear hb2))
        go_roundw
        case rel => exact ⟨k + 1, hlt, by simp, HSN.out, HB2.out⟩
        case measure => simp [intOf]; omega
      | false =>
        have HV := Lib.hid hv
        have HALL := Lib.hid (show L.all mayL = false by
          rw [List.all_eq_false]
          exact ⟨t, hmt, by rw [hv]; simp⟩)
        clear hb hh hh2 hgt hx hall hv hsn hmt
        go_wp2_with (go_at_call 113; ((with_reducible refine (HC.out _ HRr.out HTR.out).mono ?_); rw [HV.out]; rintro e w2 ⟨rfl, hb2⟩; have HB2 := Lib.hid (HB.out.trans (hb2.mono HB.out.size)); clear hb2))
        go_ret
        exact ⟨(k : Int), rfl, by rw [HALL.out]; exact decide_eq_true (by omega), HB2.out⟩
    · have hkn : k = n := by omega
      subst hkn
      have hd : decide ((k : Int) < (k : Int)) = false := decide_eq_false (by omega)
      have htk : L.take k = L := List.take_of_length_le (by rw [← HN.out]; exact Nat.le_refl _)
      rw [htk] at hall
      have HALL := Lib.hid hall
      clear hb hlt hk hall htk
      go_wp2_with fail
      go_ret
      exact ⟨-1, rfl, by rw [HALL.out]; decide, HB.out⟩
set_option maxRecDepth 100000 in
set_option maxHeartbeats 4000000 in
theorem allFL_calls (A : Option Addr) (n c r : Nat) (L : List LitL) (w : World) (hr : w.cell? ⟨r, 0, none⟩ = some (.func (.func 83) #[] #[])) (hn : n = L.length) (hT : LitsRd w A L) (hok : ∀ t ∈ L, LitSz t) (hn2 : n < 1000000000) :
    Calls Tryz.prog 112 #[.slice A n c, .func (.func 113) #[] #[.pointer (some ⟨r, 0, none⟩)]] w fun e w' => e = .returned (.bool (!(L.all mayL))) ∧ Below w.heap.size w w' := by
  have HI := Lib.hid (allIL_calls A n c r L w hr hn hT hok hn2)
  clear hr hn hT hok
  go_enter Tryz.func112, Tryz.ntmps112
  go_wp2_with (go_at_call 140; ((with_reducible refine HI.out.mono ?_); rintro e w2 ⟨k, rfl, hk, hb2⟩; have HB2 := Lib.hid hb2; have HK := Lib.hid hk; clear hb2 hk))
  go_ret
  exact ⟨by rw [← HK.out]; rfl, HB2.out⟩
set_option maxRecDepth 100000 in
set_option maxHeartbeats 4000000 in
theorem allL_calls (A : Option Addr) (n c : Nat) (L : List LitL) (w : World) (hn : n = L.length) (hT : LitsRd w A L) (hok : ∀ t ∈ L, LitSz t) (hn2 : n < 1000000000) :
    Calls Tryz.prog 82 #[.slice A n c, .func (.func 83) #[] #[]] w fun e w' => e = .returned (.bool (L.all mayL)) ∧ Below w.heap.size w w' := by
  have hbl := (Below.refl w.heap.size w).alloc (Nat.le_refl _) (.cells #[.func (.func 83) #[] #[]] 99)
  have hnw := heap_alloc_new w (.cells #[.func (.func 83) #[] #[]] 99)
  have HB0 := Lib.hid hbl
  have HI := Lib.hid (allFL_calls A n c w.heap.size L _ (cell_of_row _ _ 0 _ _ _ hnw) hn (hT.below hbl) hok hn2)
  clear hbl hnw hn hT hok
  go_enter Tryz.func82, Tryz.ntmps82
  go_wp2_with (go_at_call 112; ((with_reducible refine HI.out.mono ?_); rintro e w2 ⟨rfl, hb2⟩; have HB2 := Lib.hid (HB0.out.trans (hb2.mono HB0.out.size)); clear hb2))
  go_ret
  refine ⟨?_, HB2.out⟩
  simp
end Go.Proofs.YtminbdcabacfbaaGreatDoor.V

namespace Go.Proofs.YtminbdcabacfbaaGreatDoor.V
set_option linter.unusedVariables false
set_option linter.unusedSimpArgs false
open Go.RowKit

set_option maxRecDepth 100000 in
set_option maxHeartbeats 8000000 in
theorem prMayR_calls (A B : Option Addr) (n c m d : Nat) (x : RuleL) (w : World) (hn : n = x.h.a.length) (hm : m = x.b.length) (hT : TermsRd w A x.h.a) (hL : LitsRd w B x.b) (hs : RuleSz x) :
    Calls Tryz.prog 48 #[.agg #[.string (bs x.h.p), .slice A n c, .slice B m d]] w fun e w' => e = .returned (.bool (mayR x)) ∧ Below w.heap.size w w' := by
  have hbl := (Below.refl w.heap.size w).alloc (Nat.le_refl _) (.cells #[.string (bs x.h.p), .slice A n c, .slice B m d] 50)
  have hnw := heap_alloc_new w (.cells #[.string (bs x.h.p), .slice A n c, .slice B m d] 50)
  have HB0 := Lib.hid hbl
  have HT0 := Lib.hid (hT.below hbl)
  have HL0 := Lib.hid (hL.below hbl)
  have HNW := Lib.hid hnw
  have d0 := cell_of_row _ _ 0 _ _ _ hnw
  have d1 := cell_of_row _ _ 1 _ _ _ hnw
  have HAT := Lib.hid (fun (W : World) (h : TermsRd W A x.h.a) => prMayA_calls A n c x.h W hn h hs.1)
  have HAL := Lib.hid (fun (W : World) (h : LitsRd W B x.b) => allL_calls B m d x.b W hm h hs.2.2 (by rw [hm]; exact hs.2.1))
  have hE : mayR x = (mayA x.h && decide ((m : Int) ≤ 8) && x.b.all mayL) := by
    unfold mayR
    rw [show decide (x.b.length ≤ 8) = decide ((m : Int) ≤ 8) from by rw [decide_eq_decide]; omega]
  clear hbl hnw hT hL hs hn hm
  cases hv : mayA x.h with
  | false =>
    have HV := Lib.hid hv
    have HE := Lib.hid (show mayR x = false by rw [hE, hv]; rfl)
    clear hv hE
    go_enter Tryz.func48, Tryz.ntmps48
    go_wp2_with (go_at_call 81; ((with_reducible refine (HAT.out _ HT0.out).mono ?_); rw [HV.out]; rintro e w2 ⟨rfl, hb2⟩; have HB2 := Lib.hid (HB0.out.trans (hb2.mono HB0.out.size)); clear hb2))
    go_ret
    exact ⟨by rw [HE.out]; rfl, HB2.out⟩
  | true =>
    by_cases h6 : (m : Int) ≤ 8
    · have HV := Lib.hid hv
      have HE := Lib.hid (show mayR x = x.b.all mayL by rw [hE, hv, decide_eq_true h6]; rfl)
      clear hv hE
      go_enter Tryz.func48, Tryz.ntmps48
      go_wp2_with (first
        | (go_at_call 81; ((with_reducible refine (HAT.out _ HT0.out).mono ?_); rw [HV.out]; rintro e w2 ⟨rfl, hb2⟩; have HB2 := Lib.hid (HB0.out.trans (hb2.mono HB0.out.size)); have HL2 := Lib.hid (HL0.out.below hb2); have e2 := cell_below hb2 (cell_of_row _ _ 2 _ _ _ HNW.out); clear hb2))
        | (go_at_call 82; ((with_reducible refine (HAL.out _ HL2.out).mono ?_); rintro e w3 ⟨rfl, hb3⟩; have HB3 := Lib.hid (HB2.out.trans (hb3.mono HB2.out.size)); clear hb3)))
      go_ret
      exact ⟨by rw [HE.out]; rfl, HB3.out⟩
    · have HV := Lib.hid hv
      have HE := Lib.hid (show mayR x = false by rw [hE, hv, decide_eq_false h6]; rfl)
      clear hv hE
      go_enter Tryz.func48, Tryz.ntmps48
      go_wp2_with (go_at_call 81; ((with_reducible refine (HAT.out _ HT0.out).mono ?_); rw [HV.out]; rintro e w2 ⟨rfl, hb2⟩; have HB2 := Lib.hid (HB0.out.trans (hb2.mono HB0.out.size)); have e2 := cell_below hb2 (cell_of_row _ _ 2 _ _ _ HNW.out); clear hb2))
      go_ret
      exact ⟨by rw [HE.out]; rfl, HB2.out⟩
end Go.Proofs.YtminbdcabacfbaaGreatDoor.V

namespace Go.Proofs.YtminbdcabacfbaaGreatDoor.V
set_option linter.unusedVariables false
set_option linter.unusedSimpArgs false
open Go.RowKit

set_option maxRecDepth 100000 in
set_option maxHeartbeats 4000000 in
theorem allCR_calls (Aa Bb : Option Addr) (na ca nb cb : Nat) (t : RuleL) (r : Nat) (w : World) (hr : w.cell? ⟨r, 0, none⟩ = some (.func (.func 48) #[] #[])) (hna : na = t.h.a.length) (hnb : nb = t.b.length) (htr : TermsRd w Aa t.h.a) (hlr : LitsRd w Bb t.b) (hs : RuleSz t) :
    Calls Tryz.prog 80 #[.agg #[.string (bs t.h.p), .slice Aa na ca, .slice Bb nb cb], .pointer (some ⟨r, 0, none⟩)] w fun e w' => e = .returned (.bool (!(mayR t))) ∧ Below w.heap.size w w' := by
  have hbl := (Below.refl w.heap.size w).alloc (Nat.le_refl _) (.cells #[.string (bs t.h.p), .slice Aa na ca, .slice Bb nb cb] 50)
  have hnw := heap_alloc_new w (.cells #[.string (bs t.h.p), .slice Aa na ca, .slice Bb nb cb] 50)
  have HB0 := Lib.hid hbl
  have hr1 := cell_below hbl hr
  have HT0 := Lib.hid (htr.below hbl)
  have HL0 := Lib.hid (hlr.below hbl)
  have d0 := cell_of_row _ _ 0 _ _ _ hnw
  have d1 := cell_of_row _ _ 1 _ _ _ hnw
  have d2 := cell_of_row _ _ 2 _ _ _ hnw
  have HF := Lib.hid (fun (W : World) (h : TermsRd W Aa t.h.a) (h2 : LitsRd W Bb t.b) => prMayR_calls Aa Bb na ca nb cb t W hna hnb h h2 hs)
  clear hbl hnw hr hs hna hnb htr hlr
  go_enter Tryz.func80, Tryz.ntmps80
  go_wp2_with (go_at_call 48; ((with_reducible refine (HF.out _ HT0.out HL0.out).mono ?_); rintro e w2 ⟨rfl, hb2⟩; have HB2 := Lib.hid (HB0.out.trans (hb2.mono HB0.out.size)); clear hb2))
  go_ret
  exact ⟨rfl, HB2.out⟩

set_option maxRecDepth 100000 in
set_option maxHeartbeats 8000000 in
theorem allIR_calls (A : Option Addr) (n c r : Nat) (L : List RuleL) (w : World) (hr : w.cell? ⟨r, 0, none⟩ = some (.func (.func 48) #[] #[])) (hn : n = L.length) (hT : RulesRd w A L) (hok : ∀ t ∈ L, RuleSz t) (hn2 : n < 1000000000) :
    Calls Tryz.prog 109 #[.slice A n c, .func (.func 80) #[] #[.pointer (some ⟨r, 0, none⟩)]] w fun e w' => ∃ k : Int, e = .returned (.int .i64 k) ∧ decide (0 ≤ k) = !(L.all mayR) ∧ Below w.heap.size w w' := by
  have HT := Lib.hid hT
  have HOK := Lib.hid hok
  have HN := Lib.hid hn
  have HR := Lib.hid hr
  clear hT hok hn hr
  go_enter Tryz.func109, Tryz.ntmps109
  go_wp2_with fail
  go_loopw [8] (fun i wr => ∃ k : Nat, k ≤ n ∧ i = .int .i64 (k : Int) ∧ (L.take k).all mayR = true ∧ Below w.heap.size w wr) (fun i _ => n + 1 - (intOf i).toNat)
  case atStart => exact ⟨0, Nat.zero_le _, rfl, rfl, Below.refl _ _⟩
  case round =>
    obtain ⟨k, hk, rfl, hall, hb⟩ := hrel
    have HB := Lib.hid hb
    by_cases hlt : k < n
    · have hd : decide ((k : Int) < (n : Int)) = true := decide_eq_true (by omega)
      obtain ⟨t, hx⟩ : ∃ t, L[k]? = some t := ⟨_, List.getElem?_eq_getElem (by rw [← HN.out]; exact hlt)⟩
      obtain ⟨a, rfl, hh⟩ := HT.out k t hx
      have hh2 := hh.below hb
      have hgt := HOK.out t (List.mem_of_getElem? hx)
      have hsn : (L.take (k + 1)).all mayR = mayR t := by
        rw [List.take_add_one, List.all_append, hall, hx]
        simp
      have hmt : t ∈ L := List.mem_of_getElem? hx
      have HRr := Lib.hid (cell_below hb HR.out)
      obtain ⟨⟨Aa, na, ca, hna, hca, d0, d1, htr⟩, Bb, nb, cb, hnb, hcb, d2, hlr⟩ := hh2
      have HC := Lib.hid (fun (W : World) (hr : W.cell? ⟨r, 0, none⟩ = some (.func (.func 48) #[] #[])) (h : TermsRd W Aa t.h.a) (h2 : LitsRd W Bb t.b) => allCR_calls Aa Bb na ca nb cb t r W hr hna hnb h h2 hgt)
      have HTR := Lib.hid htr
      have HLR := Lib.hid hlr
      clear hna hnb hca hcb htr hlr
      cases hv : mayR t with
      | true =>
        rw [hv] at hsn
        have HV := Lib.hid hv
        have HSN := Lib.hid hsn
        clear hb hh hgt hx hall hv hsn hmt
        go_wp2_with (go_at_call 80; ((with_reducible refine (HC.out _ HRr.out HTR.out HLR.out).mono ?_); rw [HV.out]; rintro e w2 ⟨rfl, hb2⟩; have HB2 := Lib.hid (HB.out.trans (hb2.mono HB.out.size)); clear hb2))
        go_roundw
        case rel => exact ⟨k + 1, hlt, by simp, HSN.out, HB2.out⟩
        case measure => simp [intOf]; omega
      | false =>
        have HV := Lib.hid hv
        have HALL := Lib.hid (show L.all mayR = false by
          rw [List.all_eq_false]
          exact ⟨t, hmt, by rw [hv]; simp⟩)
        clear hb hh hgt hx hall hv hsn hmt
        go_wp2_with (go_at_call 80; ((with_reducible refine (HC.out _ HRr.out HTR.out HLR.out).mono ?_); rw [HV.out]; rintro e w2 ⟨rfl, hb2⟩; have HB2 := Lib.hid (HB.out.trans (hb2.mono HB.out.size)); clear hb2))
        go_ret
        exact ⟨(k : Int), rfl, by rw [HALL.out]; exact decide_eq_true (by omega), HB2.out⟩
    · have hkn : k = n := by omega
      subst hkn
      have hd : decide ((k : Int) < (k : Int)) = false := decide_eq_false (by omega)
      have htk : L.take k = L := List.take_of_length_le (by rw [← HN.out]; exact Nat.le_refl _)
      rw [htk] at hall
      have HALL := Lib.hid hall
      clear hb hlt hk hall htk
      go_wp2_with fail
      go_ret
      exact ⟨-1, rfl, by rw [HALL.out]; decide, HB.out⟩
set_option maxRecDepth 100000 in
set_option maxHeartbeats 4000000 in
theorem allFR_calls (A : Option Addr) (n c r : Nat) (L : List RuleL) (w : World) (hr : w.cell? ⟨r, 0, none⟩ = some (.func (.func 48) #[] #[])) (hn : n = L.length) (hT : RulesRd w A L) (hok : ∀ t ∈ L, RuleSz t) (hn2 : n < 1000000000) :
    Calls Tryz.prog 79 #[.slice A n c, .func (.func 80) #[] #[.pointer (some ⟨r, 0, none⟩)]] w fun e w' => e = .returned (.bool (!(L.all mayR))) ∧ Below w.heap.size w w' := by
  have HI := Lib.hid (allIR_calls A n c r L w hr hn hT hok hn2)
  clear hr hn hT hok
  go_enter Tryz.func79, Tryz.ntmps79
  go_wp2_with (go_at_call 109; ((with_reducible refine HI.out.mono ?_); rintro e w2 ⟨k, rfl, hk, hb2⟩; have HB2 := Lib.hid hb2; have HK := Lib.hid hk; clear hb2 hk))
  go_ret
  exact ⟨by rw [← HK.out]; rfl, HB2.out⟩
set_option maxRecDepth 100000 in
set_option maxHeartbeats 4000000 in
theorem allR_calls (A : Option Addr) (n c : Nat) (L : List RuleL) (w : World) (hn : n = L.length) (hT : RulesRd w A L) (hok : ∀ t ∈ L, RuleSz t) (hn2 : n < 1000000000) :
    Calls Tryz.prog 47 #[.slice A n c, .func (.func 48) #[] #[]] w fun e w' => e = .returned (.bool (L.all mayR)) ∧ Below w.heap.size w w' := by
  have hbl := (Below.refl w.heap.size w).alloc (Nat.le_refl _) (.cells #[.func (.func 48) #[] #[]] 98)
  have hnw := heap_alloc_new w (.cells #[.func (.func 48) #[] #[]] 98)
  have HB0 := Lib.hid hbl
  have HI := Lib.hid (allFR_calls A n c w.heap.size L _ (cell_of_row _ _ 0 _ _ _ hnw) hn (hT.below hbl) hok hn2)
  clear hbl hnw hn hT hok
  go_enter Tryz.func47, Tryz.ntmps47
  go_wp2_with (go_at_call 79; ((with_reducible refine HI.out.mono ?_); rintro e w2 ⟨rfl, hb2⟩; have HB2 := Lib.hid (HB0.out.trans (hb2.mono HB0.out.size)); clear hb2))
  go_ret
  refine ⟨?_, HB2.out⟩
  simp
end Go.Proofs.YtminbdcabacfbaaGreatDoor.V

namespace Go.Proofs.YtminbdcabacfbaaGreatDoor.V
set_option linter.unusedVariables false
set_option linter.unusedSimpArgs false
open Go.RowKit

set_option maxRecDepth 100000 in
set_option maxHeartbeats 16000000 in
theorem prMay_calls (A B : Option Addr) (n c m d : Nat) (ds : List DeclL) (rs : List RuleL) (w : World) (hn : n = ds.length) (hm : m = rs.length) (hD : DeclsRd w A ds) (hR : RulesRd w B rs) (hsd : ∀ d ∈ ds, DeclSz d) (hsr : ∀ r ∈ rs, RuleSz r) :
    Calls Tryz.prog 18 #[.agg #[.slice A n c, .slice B m d]] w fun e w' => e = .returned (.bool (mayP ds rs)) ∧ Below w.heap.size w w' := by
  have hbl := (Below.refl w.heap.size w).alloc (Nat.le_refl _) (.cells #[.slice A n c, .slice B m d] 36)
  have hnw := heap_alloc_new w (.cells #[.slice A n c, .slice B m d] 36)
  have HB0 := Lib.hid hbl
  have HD0 := Lib.hid (hD.below hbl)
  have HR0 := Lib.hid (hR.below hbl)
  have HNW := Lib.hid hnw
  have d0 := cell_of_row _ _ 0 _ _ _ hnw
  have d1 := cell_of_row _ _ 1 _ _ _ hnw
  have hE : mayP ds rs = (decide ((n : Int) ≤ 400) && decide ((m : Int) ≤ 400) && ds.all mayD && rs.all mayR) := by
    unfold mayP
    rw [show decide (ds.length ≤ 400) = decide ((n : Int) ≤ 400) from by rw [decide_eq_decide]; omega, show decide (rs.length ≤ 400) = decide ((m : Int) ≤ 400) from by rw [decide_eq_decide]; omega]
  by_cases h1 : (n : Int) ≤ 400
  · by_cases h2 : (m : Int) ≤ 400
    · have HAD := Lib.hid (fun (W : World) (h : DeclsRd W A ds) => allD_calls A n c ds W hn h hsd (by omega))
      have HAR := Lib.hid (fun (W : World) (h : RulesRd W B rs) => allR_calls B m d rs W hm h hsr (by omega))
      clear hbl hnw hD hR hsd hsr hn hm
      cases hv : ds.all mayD with
      | false =>
        have HV := Lib.hid hv
        have HE := Lib.hid (show mayP ds rs = false by rw [hE, hv]; simp)
        clear hv hE
        go_enter Tryz.func18, Tryz.ntmps18
        go_wp2_with (go_at_call 46; ((with_reducible refine (HAD.out _ HD0.out).mono ?_); rw [HV.out]; rintro e w2 ⟨rfl, hb2⟩; have HB2 := Lib.hid (HB0.out.trans (hb2.mono HB0.out.size)); clear hb2))
        go_ret
        exact ⟨by rw [HE.out]; rfl, HB2.out⟩
      | true =>
        have HV := Lib.hid hv
        have HE := Lib.hid (show mayP ds rs = rs.all mayR by rw [hE, hv, decide_eq_true h1, decide_eq_true h2]; rfl)
        clear hv hE
        go_enter Tryz.func18, Tryz.ntmps18
        go_wp2_with (first
          | (go_at_call 46; ((with_reducible refine (HAD.out _ HD0.out).mono ?_); rw [HV.out]; rintro e w2 ⟨rfl, hb2⟩; have HB2 := Lib.hid (HB0.out.trans (hb2.mono HB0.out.size)); have HR2 := Lib.hid (HR0.out.below hb2); have e1 := cell_below hb2 (cell_of_row _ _ 1 _ _ _ HNW.out); clear hb2))
          | (go_at_call 47; ((with_reducible refine (HAR.out _ HR2.out).mono ?_); rintro e w3 ⟨rfl, hb3⟩; have HB3 := Lib.hid (HB2.out.trans (hb3.mono HB2.out.size)); clear hb3)))
        go_ret
        exact ⟨by rw [HE.out]; rfl, HB3.out⟩
    · have HE := Lib.hid (show mayP ds rs = false by rw [hE, decide_eq_false h2]; simp)
      clear hbl hnw hD hR hsd hsr hn hm hE
      go_enter Tryz.func18, Tryz.ntmps18
      go_wp2_with fail
      go_ret
      exact ⟨by rw [HE.out]; rfl, HB0.out⟩
  · have HE := Lib.hid (show mayP ds rs = false by rw [hE, decide_eq_false h1]; simp)
    clear hbl hnw hD hR hsd hsr hn hm hE
    go_enter Tryz.func18, Tryz.ntmps18
    go_wp2_with fail
    go_ret
    exact ⟨by rw [HE.out]; rfl, HB0.out⟩
end Go.Proofs.YtminbdcabacfbaaGreatDoor.V

namespace Go.Proofs.YtminbdcabacfbaaGreatDoor.V
set_option linter.unusedVariables false
set_option linter.unusedSimpArgs false
open Go.RowKit

section
variable {T : Nat} {v0 v1 v2 : Value} {w : World}
end
section
variable {T : Nat} {v0 v1 v2 v3 v4 : Value} {w : World}
end
def IsAt (T : Nat) (v0 v1 : Value) (w : World) : Prop := w.heap[T]? = some (.cells #[v0, v1] 25 (0, 0))
section
variable {T : Nat} {v0 v1 : Value} {w : World}
theorem IsAt.c0 (h : IsAt T v0 v1 w) : w.cell? ⟨T, 0, none⟩ = some v0 := cell_of_row w T 0 _ _ _ h
theorem IsAt.c1 (h : IsAt T v0 v1 w) : w.cell? ⟨T, 1, none⟩ = some v1 := cell_of_row w T 1 _ _ _ h
theorem IsAt.fr (h : IsAt T v0 v1 w) (i : Nat) : w.frozen? ⟨T, i, none⟩ = false := frozen_of_row w T i _ _ h
theorem IsAt.lt (h : IsAt T v0 v1 w) : T < w.heap.size := (Array.getElem?_eq_some_iff.1 h).1
theorem IsAt.below {w' : World} (h : IsAt T v0 v1 w) (hb : Below w.heap.size w w') : IsAt T v0 v1 w' := (hb.block T h.lt).trans h
theorem IsAt.alloc (h : IsAt T v0 v1 w) (o : Obj) : IsAt T v0 v1 (w.alloc o) := h.below ((Below.refl _ _).alloc (Nat.le_refl _) o)
theorem IsAt.grown {w' : World} {row : Option Nat} (h : IsAt T v0 v1 w) (hg : w.grownBy w' row) (hne : some T ≠ row) : IsAt T v0 v1 w' := (hg.block T h.lt hne).trans h
theorem IsAt.new (w : World) : IsAt w.heap.size v0 v1 (w.alloc (.cells #[v0, v1] 25)) := heap_alloc_new w _
theorem IsAt.far {T2 : Nat} (h : IsAt T v0 v1 w) (hne : T ≠ T2) (i : Nat) (v : Value) : IsAt T v0 v1 (w.setCell ⟨T2, i, none⟩ v) := (Below.heap_setCell _ _ _ _ hne).trans h
end
theorem IsAt.set0 {T : Nat} {v0 v1 : Value} {w : World} (h : IsAt T v0 v1 w) (u : Value) : IsAt T u v1 (w.setCell ⟨T, 0, none⟩ u) := set_block h u
theorem IsAt.set1 {T : Nat} {v0 v1 : Value} {w : World} (h : IsAt T v0 v1 w) (u : Value) : IsAt T v0 u (w.setCell ⟨T, 1, none⟩ u) := set_block h u
abbrev IsAtSet (T : Nat) (u0 u1 : Value) (w : World) : World := ((w.setCell ⟨T, 0, none⟩ u0).setCell ⟨T, 1, none⟩ u1)
theorem IsAt.set {T : Nat} {v0 v1 : Value} {w : World} (h : IsAt T v0 v1 w) (u0 u1 : Value) : IsAt T u0 u1 (IsAtSet T u0 u1 w) := ((h.set0 u0).set1 u1)
end Go.Proofs.YtminbdcabacfbaaGreatDoor.V

namespace Go.Proofs.YtminbdcabacfbaaGreatDoor.V
set_option linter.unusedVariables false
set_option linter.unusedSimpArgs false
open Go.RowKit

theorem o_drew {W : World} {q e z n : Nat} {v : Value} {xs : List Value} (h : W.ownsRow q e z v n xs) : W.drew.ownsRow q e z v n xs := o_kb h (Below.refl _ _).drew
theorem IsAt.drew {T : Nat} {v0 v1 : Value} {w : World} (h : IsAt T v0 v1 w) : IsAt T v0 v1 w.drew := h
end Go.Proofs.YtminbdcabacfbaaGreatDoor.V

namespace Go.Proofs.YtminbdcabacfbaaGreatDoor.V
set_option linter.unusedVariables false
set_option linter.unusedSimpArgs false
open Go.RowKit

/-- A fact's values, as terms. -/
structure ValHere (w : World) (a : Addr) (t : TermL) : Prop where
  v : t.v = false
  x : t.x = []
  c0 : w.cell? a = some (.bool t.s)
  c1 : w.cell? ⟨a.block, a.off + 1, none⟩ = some (.string (bs t.t))
  c2 : w.cell? ⟨a.block, a.off + 2, none⟩ = some (.int .i64 t.n)
theorem ValHere.below {w w' : World} {a : Addr} {t : TermL} (h : ValHere w a t) (hb : Below w.heap.size w w') : ValHere w' a t :=
  ⟨h.v, h.x, cell_below hb h.c0, cell_below hb h.c1, cell_below hb h.c2⟩
def ValsRd (w : World) (A : Option Addr) (L : List TermL) : Prop := ∀ (j : Nat) (t : TermL), L[j]? = some t → ∃ a, A = some a ∧ ValHere w (a.add (j * 3)) t
theorem ValsRd.below {w w' : World} {A : Option Addr} {L : List TermL} (h : ValsRd w A L) (hb : Below w.heap.size w w') : ValsRd w' A L := fun j t hj => by
  obtain ⟨a, h1, h2⟩ := h j t hj
  exact ⟨a, h1, h2.below hb⟩
theorem terms_rd {W : World} {B n c : Nat} {A : Option Addr} {L : List TermL} (h : W.ownsRow B 45 5 (.slice A n c) n (termCells L)) (hn : n = L.length) : TermsRd W A L := by
  intro j t hj
  obtain ⟨g, rfl, hc⟩ := flat_row termC (fun x => rfl) h hn hj
  refine ⟨_, rfl, ?_⟩
  rw [addr_add]
  exact ⟨hc 0 _ (by omega) rfl, hc 1 _ (by omega) rfl, hc 2 _ (by omega) rfl, hc 3 _ (by omega) rfl, hc 4 _ (by omega) rfl⟩
theorem bs_nil : bs [] = ⟨#[]⟩ := rfl

set_option maxRecDepth 100000 in
set_option maxHeartbeats 16000000 in
theorem prFact_calls (A : Option Addr) (n c : Nat) (p : List UInt8) (L : List TermL) (w : World) (hn : n = L.length) (hV : ValsRd w A L) (hok : ∀ t ∈ L, TermOk t) (hn2 : n < 1000000000) (hbig : (atomT ⟨p, L⟩).length ≤ 140737488355328) (hw : TabW w) :
    Calls Tryz.prog 30 #[.agg #[.string (bs p), .slice A n c]] w fun e w' => e = .returned (.string (bs (atomT ⟨p, L⟩))) ∧ Below w.heap.size w w' := by
  have hbl := (Below.refl w.heap.size w).alloc (Nat.le_refl _) (.cells #[.string (bs p), .slice A n c] 53)
  have hnw := heap_alloc_new w (.cells #[.string (bs p), .slice A n c] 53)
  have HBL := Lib.hid hbl
  have HV := Lib.hid (hV.below hbl)
  have HW := Lib.hid (hw.below hbl)
  have HN := Lib.hid hn
  have HNW := Lib.hid hnw
  have hsz : (w.alloc (.cells #[.string (bs p), .slice A n c] 53)).heap.size = w.heap.size + 1 := World.size_alloc _ _
  have HSZ := Lib.hid hsz
  have h0 := IsAt.new (v0 := .string (bs p)) (v1 := .slice none 0 0) (w.alloc (.cells #[.string (bs p), .slice A n c] 53))
  rw [hsz] at h0
  have HA0 := Lib.hid h0
  have HAT := Lib.hid (fun (Ao : Option Addr) (co : Nat) (W : World) (h : TermsRd W Ao L) (hw : TabW W) => (show Calls Tryz.prog 26 #[.agg #[.string (bs p), .slice Ao n co]] W (fun e w' => e = .returned (.string (bs (atomT ⟨p, L⟩))) ∧ Below W.heap.size W w') from prAtom_calls Ao n co ⟨p, L⟩ W hn h ⟨by rw [hn] at hn2; exact hn2, hok⟩ hbig hw))
  have HBB := Lib.hid (show Below (w.heap.size + 1) (w.alloc (.cells #[.string (bs p), .slice A n c] 53)) ((w.alloc (.cells #[.string (bs p), .slice A n c] 53)).alloc (.cells #[.string (bs p), .slice none 0 0] 25)) from (Below.refl _ _).alloc (by rw [hsz]; exact Nat.le_refl _) _)
  clear hbl hV hw hok hn hbig h0 hsz
  have d0 := cell_of_row _ _ 0 _ _ _ hnw
  have d1 := cell_of_row _ _ 1 _ _ _ hnw
  clear hnw
  go_enter Tryz.func30, Tryz.ntmps30
  go_wp2_with fail
  go_loopw [12] (fun i wr => ∃ (k : Nat) (Ao : Option Addr) (co : Nat), k ≤ n ∧ i = .int .i64 (k : Int) ∧ IsAt (w.heap.size + 1) (.string (bs p)) (.slice Ao k co) wr ∧ wr.ownsRow (w.heap.size + 2) 45 5 (.slice Ao k co) k (termCells (L.take k)) ∧ Below (w.heap.size + 1) (w.alloc (.cells #[.string (bs p), .slice A n c] 53)) wr ∧ w.heap.size + 2 ≤ wr.heap.size) (fun i _ => n + 1 - (intOf i).toNat)
  case atStart => exact ⟨0, none, 0, Nat.zero_le _, rfl, HA0.out, World.ownsRow_nil _ _ _ _, HBB.out, by simp⟩
  case round =>
    obtain ⟨k, Ao, co, hk, rfl, hat, how, hb, hsr⟩ := hrel
    have hb' : Below (w.alloc (.cells #[.string (bs p), .slice A n c] 53)).heap.size (w.alloc (.cells #[.string (bs p), .slice A n c] 53)) wr := by rw [HSZ.out]; exact hb
    have HAR := Lib.hid hat
    have HOW := Lib.hid how
    have HB := Lib.hid hb
    have HSR := Lib.hid hsr

    by_cases hlt : k < n
    · have hd : decide ((k : Int) < (n : Int)) = true := decide_eq_true (by omega)
      obtain ⟨t, hx⟩ : ∃ t, L[k]? = some t := ⟨_, List.getElem?_eq_getElem (by rw [← HN.out]; exact hlt)⟩
      obtain ⟨a, rfl, hh⟩ := HV.out k t hx
      have hh2 := hh.below hb'
      obtain ⟨tv, tx, ts, ty, tn⟩ := t
      obtain ⟨e1, e2, c0, c1, c2⟩ := hh2
      dsimp only at e1 e2 c0 c1 c2
      subst e1
      subst e2
      have HSN := Lib.hid (show termCells (L.take (k + 1)) = termCells (L.take k) ++ [.bool false, .string ⟨#[]⟩, .bool ts, .string (bs ty), .int .i64 tn] by
        rw [List.take_add_one, hx]
        simp [termCells, termC, bs_nil])
      have hbx := (Below.refl wr.heap.size wr).alloc (Nat.le_refl _) (.cells #[.bool ts, .string (bs ty), .int .i64 tn] 43)
      have HBX := Lib.hid hbx
      have HAX := Lib.hid (hat.below hbx)
      have HOX := Lib.hid (o_kb how hbx)
      have q0 := HAX.out.c0
      have q1 := HAX.out.c1
      clear hb hb' hh hx hat how hbx hsr
      go_wp2_with (refine o_app (W := wr.alloc (.cells #[.bool ts, .string (bs ty), .int .i64 tn] 43)) rfl (.tmp 17) (.tmp 20) 23 45 rfl (.agg #[.bool false, .string ⟨#[]⟩, .bool false, .string ⟨#[]⟩, .int .i64 0]) 5 56 Tryz.underlying23 trm_info rfl (by decide) (by decide) #[.bool false, .string ⟨#[]⟩, .bool ts, .string (bs ty), .int .i64 tn] rfl (by intro u hu; simp at hu; rcases hu with rfl | rfl | rfl | rfl | rfl <;> rfl) (.slice Ao k co) k (termCells (L.take k)) (by rfl) HOX.out (by rw [World.size_alloc]; rfl) (by omega) (by rw [World.size_alloc]; exact Nat.le_succ_of_le HSR.out) ?_; intro A3 c3 w3 how3 hg3; have HA3 := Lib.hid (HAX.out.grown hg3 (fun e => by have := o_from HOX.out _ e.symm; omega)); have r0 := HA3.out.c0; have r1 := HA3.out.c1; have g0 := HA3.out.fr 0; have g1 := HA3.out.fr 1; have HOW3 := Lib.hid how3; have HG3 := Lib.hid (show wr.grownBy w3 (Value.ownBlock (.slice Ao k co)) from grown_trans (World.grownBy_alloc wr _ _) hg3); clear how3 hg3)
      go_roundw
      case rel =>
        refine ⟨k + 1, A3, c3, hlt, by simp, HA3.out.set1 _, ?_, ?_, ?_⟩
        · rw [HSN.out]
          exact o_keep HOW3.out (grown_set (World.grownBy.refl _ _) 1 _) (by omega)
        · refine Below.setCell (p := ⟨w.heap.size + 1, 1, none⟩) (HB.out.grown HG3.out (by have := HSR.out; omega) (fun k hk => by have := o_from HOW.out k hk; omega)) (Nat.le_refl _) _
        · have h1 := HSR.out
          have h2 := HG3.out.size
          simp
          omega
      case measure => simp [intOf]; omega
    · have hkn : n = k := by omega
      subst hkn
      have hd : decide ((n : Int) < (n : Int)) = false := decide_eq_false (by omega)
      have hall : L.take n = L := List.take_of_length_le (by rw [← HN.out]; exact Nat.le_refl _)
      rw [hall] at how
      have HTR := Lib.hid (terms_rd how HN.out)
      have HWr := Lib.hid (HW.out.below hb')
      have q0 := HAR.out.c0
      have q1 := HAR.out.c1
      clear hb hb' hlt hk hall hsr hat how
      go_wp2_with (go_at_call 26; ((with_reducible refine (HAT.out _ _ _ HTR.out HWr.out).mono ?_); rintro e w2 ⟨rfl, hb2⟩; have HB2 := Lib.hid (HB.out.trans (hb2.mono (Nat.le_trans (Nat.le_succ _) HSR.out))); clear hb2))
      go_ret
      exact ⟨rfl, HBL.out.trans (HB2.out.mono (Nat.le_succ _))⟩
end Go.Proofs.YtminbdcabacfbaaGreatDoor.V

namespace Go.Proofs.YtminbdcabacfbaaGreatDoor.V
set_option linter.unusedVariables false
set_option linter.unusedSimpArgs false
open Go.RowKit

set_option maxRecDepth 100000 in
set_option maxHeartbeats 16000000 in
theorem prRule_calls (A B : Option Addr) (n c m d : Nat) (x : RuleL) (w : World) (hn : n = x.h.a.length) (hm : m = x.b.length) (hT : TermsRd w A x.h.a) (hL : LitsRd w B x.b) (hok : RuleOk' x) (hbig : (ruleT x).length ≤ 140737488355328) (hw : TabW w) :
    Calls Tryz.prog 28 #[.agg #[.string (bs x.h.p), .slice A n c, .slice B m d]] w fun e w' => e = .returned (.string (bs (ruleT x))) ∧ Below w.heap.size w w' := by
  obtain ⟨⟨p, la⟩, lb⟩ := x
  dsimp only at hn hm hT hL ⊢
  have hbl := (Below.refl w.heap.size w).alloc (Nat.le_refl _) (.cells #[.string (bs p), .slice A n c, .slice B m d] 50)
  have hnw := heap_alloc_new w (.cells #[.string (bs p), .slice A n c, .slice B m d] 50)
  have HB0 := Lib.hid hbl
  have HBD := Lib.hid hbl.drew
  have HT0 := Lib.hid (hT.below hbl)
  have HTD := Lib.hid (hT.below hbl.drew)
  have HLD := Lib.hid (hL.below hbl.drew)
  have HW0 := Lib.hid (hw.below hbl)
  have HWD := Lib.hid (hw.below hbl.drew)
  have d0 := cell_of_row _ _ 0 _ _ _ hnw
  have d1 := cell_of_row _ _ 1 _ _ _ hnw
  have d2 := cell_of_row _ _ 2 _ _ _ hnw
  have HNW := Lib.hid hnw
  obtain ⟨E, hEE⟩ : ∃ E, bs (atomT ⟨p, la⟩) = E := ⟨_, rfl⟩
  have hab : (atomT ⟨p, la⟩).length ≤ (ruleT ⟨⟨p, la⟩, lb⟩).length := by
    unfold ruleT
    split <;> simp only [List.length_append] <;> omega
  have HAT := Lib.hid (fun (W : World) (h : TermsRd W A la) (hw : TabW W) => (show Calls Tryz.prog 26 #[.agg #[.string (bs p), .slice A n c]] W (fun e w' => e = .returned (.string E) ∧ Below W.heap.size W w') from by rw [← hEE]; exact prAtom_calls A n c ⟨p, la⟩ W hn h hok.1 (by omega) hw))
  clear hbl hnw hab
  by_cases h0 : m = 0
  · have h00 : lb = [] := List.length_eq_zero_iff.1 (by omega)
    have hE : ruleT ⟨⟨p, la⟩, lb⟩ = atomT ⟨p, la⟩ ++ [46] := if_pos h00
    rw [hE] at hbig
    have HTG := Lib.hid (fun (W : World) => (show Calls Tryz.prog 40 #[.slice (some ⟨W.heap.size, 0, none⟩) 2 2] (W.alloc (.cells #[.string E, .string ⟨#[46]⟩] 9)) (fun e w' => e = .returned (.string (bs (ruleT ⟨⟨p, la⟩, lb⟩))) ∧ Below W.heap.size W w') from by
      have h := tog_new [E, bs [46]] W (by rw [← hEE]; simpa [txs, bs_data] using hbig) (by simp)
      have e1 : (txs [E, bs [46]]).flatten = ruleT ⟨⟨p, la⟩, lb⟩ := by rw [hE, ← hEE]; simp [txs, bs_data]
      rw [e1] at h
      exact h))
    clear hn hm hT hL hok hbig hw hEE hE h00
    subst h0
    go_enter Tryz.func28, Tryz.ntmps28
    go_wp2_with (first
      | (go_at_call 26; ((with_reducible refine (HAT.out _ HT0.out HW0.out).mono ?_); rintro e w2 ⟨rfl, hb2⟩; have HB2 := Lib.hid (HB0.out.trans (hb2.mono HB0.out.size)); clear hb2))
      | (go_at_call 40; ((with_reducible refine (HTG.out w2).mono ?_); rintro e w3 ⟨rfl, hb3⟩; have HB3 := Lib.hid (HB2.out.trans (hb3.mono HB2.out.size)); clear hb3)))
    go_ret
    exact ⟨rfl, HB3.out⟩
  · have h00 : lb ≠ [] := fun e => by subst e; exact h0 (by simpa using hm)
    have hE : ruleT ⟨⟨p, la⟩, lb⟩ = atomT ⟨p, la⟩ ++ [32, 58, 45, 32] ++ sepT cmaT (lb.map litT) ++ [46] := if_neg h00
    rw [hE] at hbig
    obtain ⟨E2, hE2⟩ : ∃ E, bs (sepT cmaT (lb.map litT)) = E := ⟨_, rfl⟩
    have HTX := Lib.hid (fun (W : World) (h : LitsRd W B lb) (hw : TabW W) => (show Calls Tryz.prog 57 #[.slice B m d, .func (.func 22) #[] #[]] W (fun e w' => e = .returned (.string E2) ∧ Below W.heap.size W w') from by
      rw [← hE2]
      exact prTextsL_calls B m d lb W hm h hok.2.2 (by rw [hm]; exact hok.2.1) (by simp only [List.length_append] at hbig; omega) hw))
    have HTG := Lib.hid (fun (W : World) => (show Calls Tryz.prog 40 #[.slice (some ⟨W.heap.size, 0, none⟩) 4 4] (W.alloc (.cells #[.string E, .string ⟨#[32, 58, 45, 32]⟩, .string E2, .string ⟨#[46]⟩] 9)) (fun e w' => e = .returned (.string (bs (ruleT ⟨⟨p, la⟩, lb⟩))) ∧ Below W.heap.size W w') from by
      have h := tog_new [E, bs [32, 58, 45, 32], E2, bs [46]] W (by rw [← hEE, ← hE2]; simpa [txs, bs_data] using hbig) (by simp)
      have e1 : (txs [E, bs [32, 58, 45, 32], E2, bs [46]]).flatten = ruleT ⟨⟨p, la⟩, lb⟩ := by rw [hE, ← hEE, ← hE2]; simp [txs, bs_data]
      rw [e1] at h
      exact h))
    have hnn : ((m : Int) == 0) = false := beq_eq_false_iff_ne.2 (by omega)
    clear hn hm hT hL hok hbig hw h00 hE hE2 hEE h0
    go_enter Tryz.func28, Tryz.ntmps28
    go_wp2_with fail
    go_region_with (first
      | (go_at_call 26; ((with_reducible refine (HAT.out _ HTD.out HWD.out).mono ?_); rintro e w2 ⟨rfl, hb2⟩; have HD2 := Lib.hid (show w2.heap[w.heap.size]? = some (.cells #[.string (bs p), .slice A n c, .slice B m d] 50 (0, 0)) from (hb2.block w.heap.size (by rw [World.size_drew, World.size_alloc]; omega)).trans HNW.out); have HB2 := Lib.hid (HBD.out.trans (hb2.mono HBD.out.size)); have HW2 := Lib.hid (HWD.out.below hb2); have HL2 := Lib.hid (HLD.out.below hb2); have e2 := cell_of_row _ _ 2 _ _ _ HD2.out; clear hb2))
      | (go_at_call 57; ((with_reducible refine (HTX.out _ HL2.out HW2.out).mono ?_); rintro e w3 ⟨rfl, hb3⟩; have HB3 := Lib.hid (HB2.out.trans (hb3.mono HB2.out.size)); clear hb3))
      | (go_at_call 40; ((with_reducible refine (HTG.out w3).mono ?_); rintro e w4 ⟨rfl, hb4⟩; have HB4 := Lib.hid (HB3.out.trans (hb4.mono HB3.out.size)); clear hb4)))
    all_goals
      go_wp2_with fail
      go_ret
      exact ⟨rfl, HB4.out⟩
end Go.Proofs.YtminbdcabacfbaaGreatDoor.V

namespace Go.Proofs.YtminbdcabacfbaaGreatDoor.V
set_option linter.unusedVariables false
set_option linter.unusedSimpArgs false
open Go.RowKit

def dT (d : DeclL) : List UInt8 := declT d ++ [10]
def rT (r : RuleL) : List UInt8 := ruleT r ++ [10]
theorem prgT_eq (ds : List DeclL) (rs : List RuleL) : prgT ds rs = ds.flatMap dT ++ rs.flatMap rT := rfl
theorem flat_snoc {α : Type} (f : α → List UInt8) {L : List α} {k : Nat} {t : α} (h : L[k]? = some t) : (L.take (k + 1)).flatMap f = (L.take k).flatMap f ++ f t := by
  rw [List.take_add_one, List.flatMap_append, h]
  simp
theorem flat_le {α : Type} (f : α → List UInt8) (L : List α) (k : Nat) : ((L.take k).flatMap f).length ≤ (L.flatMap f).length := by
  conv => rhs; rw [← List.take_append_drop k L]
  rw [List.flatMap_append, List.length_append]
  omega
theorem bsCells (l : List UInt8) : Lib.strCells (bs l) = Lib.byteCells l := rfl
def DeclFit (d : DeclL) : Prop := -9223372036854775808 ≤ d.n ∧ d.n ≤ 9223372036854775807

set_option maxRecDepth 100000 in
set_option maxHeartbeats 16000000 in
theorem prProg_calls (A B : Option Addr) (n c m d : Nat) (ds : List DeclL) (rs : List RuleL) (w : World) (hn : n = ds.length) (hm : m = rs.length) (hD : DeclsRd w A ds) (hR : RulesRd w B rs) (hod : ∀ d ∈ ds, DeclFit d) (hor : ∀ r ∈ rs, RuleOk' r) (hbig : (prgT ds rs).length ≤ 140737488355328) (hn2 : n ≤ 1000000000) (hm2 : m ≤ 1000000000) (hw : TabW w) :
    Calls Tryz.prog 16 #[.agg #[.slice A n c, .slice B m d]] w fun e w' => e = .returned (.string (bs (prgT ds rs))) ∧ Below w.heap.size w w' := by
  have hbl := (Below.refl w.heap.size w).alloc (Nat.le_refl _) (.cells #[.slice A n c, .slice B m d] 36)
  have hnw := heap_alloc_new w (.cells #[.slice A n c, .slice B m d] 36)
  have HBL := Lib.hid hbl
  have HD := Lib.hid (hD.below hbl)
  have HR := Lib.hid (hR.below hbl)
  have HW := Lib.hid (hw.below hbl)
  have HOD := Lib.hid hod
  have HOR := Lib.hid hor
  have HN := Lib.hid hn
  have HM := Lib.hid hm
  have HBIG := Lib.hid hbig
  have HNW := Lib.hid hnw
  have h0 := isbld_new (w.alloc (.cells #[.slice A n c, .slice B m d] 36))
  rw [World.size_alloc] at h0
  have HB0 := Lib.hid h0
  have hsz : (w.alloc (.cells #[.slice A n c, .slice B m d] 36)).heap.size = w.heap.size + 1 := World.size_alloc _ _
  have HSZ := Lib.hid hsz
  have d0 := cell_of_row _ _ 0 _ _ _ hnw
  have HBB := Lib.hid (show Below (w.heap.size + 1) (w.alloc (.cells #[.slice A n c, .slice B m d] 36)) ((w.alloc (.cells #[.slice A n c, .slice B m d] 36)).alloc (.cells #[.pointer none, .slice none 0 0] 84)) from (Below.refl _ _).alloc (by rw [hsz]; exact Nat.le_refl _) _)
  clear hbl hnw hD hR hw hod hor hn hm hbig h0 hsz
  go_enter Tryz.func16, Tryz.ntmps16
  go_wp2_with fail
  go_loopw [11] (fun i wr => ∃ k : Nat, k ≤ n ∧ i = .int .i64 (k : Int) ∧ IsBld (w.heap.size + 1) (w.heap.size + 1) (Lib.byteCells ((ds.take k).flatMap dT)) wr ∧ Below (w.heap.size + 1) (w.alloc (.cells #[.slice A n c, .slice B m d] 36)) wr) (fun i _ => n + 1 - (intOf i).toNat)
  case atStart => exact ⟨0, Nat.zero_le _, rfl, HB0.out, HBB.out⟩
  case round =>
    obtain ⟨k, hk, rfl, hbld, hb⟩ := hrel
    have hb' : Below (w.alloc (.cells #[.slice A n c, .slice B m d] 36)).heap.size (w.alloc (.cells #[.slice A n c, .slice B m d] 36)) wr := by rw [HSZ.out]; exact hb
    have hsr : w.heap.size + 1 ≤ wr.heap.size := by have := hb.size; rw [HSZ.out] at this; exact this
    have HBD := Lib.hid hbld
    have HB := Lib.hid hb
    have HSR := Lib.hid hsr
    by_cases hlt : k < n
    · have hd : decide ((k : Int) < (n : Int)) = true := decide_eq_true (by omega)
      obtain ⟨t, hx⟩ : ∃ t, ds[k]? = some t := ⟨_, List.getElem?_eq_getElem (by rw [← HN.out]; exact hlt)⟩
      obtain ⟨a, rfl, hh⟩ := HD.out k t hx
      have hh2 := hh.below hb'
      have hgt := HOD.out t (List.mem_of_getElem? hx)
      have hsn := flat_snoc dT hx
      have hle := flat_le dT ds (k + 1)
      rw [hsn, List.length_append] at hle
      have hbg := HBIG.out
      rw [prgT_eq, List.length_append] at hbg
      obtain ⟨E, hE⟩ : ∃ E, (⟨(Lib.itoa t.n).toArray⟩ : ByteArray) = E := ⟨_, rfl⟩
      obtain ⟨D, hDD⟩ : ∃ D, bs (dT t) = D := ⟨_, rfl⟩
      have hDs : D.size = (dT t).length := by rw [← hDD, bs_size]
      have HITO := Lib.hid (fun (W : World) (h : TabW W) => (show Calls Tryz.prog 41 #[.int .i64 t.n] W (fun e w' => e = .returned (.string E) ∧ Below W.heap.size W w') from by
        refine (Tryz.strconv_Itoa t.n hgt.1 hgt.2 W h.2).mono ?_
        rintro e w' ⟨rfl, q, os, rfl⟩
        exact ⟨by rw [hE], below_grow (Below.refl _ _) (Nat.le_refl _) _ _⟩))
      have HTG := Lib.hid (fun (W : World) => (show Calls Tryz.prog 40 #[.slice (some ⟨W.heap.size, 0, none⟩) 5 5] (W.alloc (.cells #[.string (bs t.p), .string ⟨#[47]⟩, .string E, .string ⟨#[46]⟩, .string ⟨#[10]⟩] 9)) (fun e w' => e = .returned (.string D) ∧ Below W.heap.size W w') from by
        have e1 : (txs [bs t.p, bs [47], E, bs [46], bs [10]]).flatten = dT t := by rw [← hE]; simp [txs, bs_data, dT, declT]
        have h := tog_new [bs t.p, bs [47], E, bs [46], bs [10]] W (by rw [e1]; omega) (by simp)
        rw [e1, hDD] at h
        exact h))
      have HSN := Lib.hid (show Lib.byteCells ((ds.take k).flatMap dT) ++ Lib.strCells D = Lib.byteCells ((ds.take (k + 1)).flatMap dT) by
        rw [hsn, byteCells_app, ← hDD, bsCells])
      have HLE := Lib.hid (show (Lib.byteCells ((ds.take k).flatMap dT)).length + D.size ≤ 140737488355328 by rw [Lib.byteCells_length, hDs]; omega)
      have hbx := (Below.refl wr.heap.size wr).alloc (Nat.le_refl _) (.cells #[.string (bs t.p), .int .i64 t.n] 86)
      have HBX := Lib.hid hbx.drew
      have HWr := Lib.hid ((HW.out.below hb').below hbx.drew)
      have d0 := hh2.c0
      have d1 := hh2.c1
      have hnd := heap_alloc_new wr (.cells #[.string (bs t.p), .int .i64 t.n] 86)
      have D0 := Lib.hid (cell_of_row _ _ 0 _ _ _ hnd)
      have f0 := D0.out
      have f1 := cell_of_row _ _ 1 _ _ _ hnd
      clear hbld hb hb' hh hh2 hgt hsn hle hbg hE hDD hDs hx hbx hnd hsr
      go_wp2_with fail
      go_region_with (first
        | (go_at_call 41; ((with_reducible refine (HITO.out _ HWr.out).mono ?_); rintro e w2 ⟨rfl, hb2⟩; have e0 := cell_below hb2 (show World.cell? _ _ = _ from D0.out); have HBx2 := Lib.hid (HBX.out.trans (hb2.mono HBX.out.size)); clear hb2))
        | (go_at_call 40; ((with_reducible refine (HTG.out w2).mono ?_); rintro e w3 ⟨rfl, hb3⟩; have HBx3 := Lib.hid (HBx2.out.trans (hb3.mono HBx2.out.size)); have HBD3 := Lib.hid (isbld_below HBD.out HBx3.out); clear hb3))
        | (go_at_call 39; ((with_reducible refine (bwrite_calls _ _ _ _ _ HBD3.out HLE.out (Nat.le_trans HSR.out HBx3.out.size)).mono ?_); rintro e w4 ⟨rfl, h4, hb4⟩; rw [HSN.out] at h4; have H4 := Lib.hid h4; have HB4 := Lib.hid ((HB.out.trans (HBx3.out.mono HSR.out)).trans hb4); clear h4 hb4)))
      all_goals
        go_wp2_with fail
        go_roundw
        case rel => exact ⟨k + 1, hlt, by simp, .inr H4.out, HB4.out⟩
        case measure => simp [intOf]; omega
    · have hkn : n = k := by omega
      subst hkn
      have hd : decide ((n : Int) < (n : Int)) = false := decide_eq_false (by omega)
      have hall : ds.take n = ds := List.take_of_length_le (by rw [← HN.out]; exact Nat.le_refl _)
      rw [hall] at hbld
      have HBD := Lib.hid hbld
      have D1 := Lib.hid (cell_below hb' (cell_of_row _ _ 1 _ _ _ HNW.out))
      have d1 := D1.out
      clear hbld hb hb' hlt hk hall hsr
      go_wp2_with fail
      go_loopw [27] (fun i wq => ∃ j : Nat, j ≤ m ∧ i = .int .i64 (j : Int) ∧ IsBld (w.heap.size + 1) (w.heap.size + 1) (Lib.byteCells (ds.flatMap dT ++ (rs.take j).flatMap rT)) wq ∧ Below (w.heap.size + 1) (w.alloc (.cells #[.slice A n c, .slice B m d] 36)) wq) (fun i _ => m + 1 - (intOf i).toNat)
      case atStart => exact ⟨0, Nat.zero_le _, rfl, by simpa using HBD.out, HB.out⟩
      case round =>
        obtain ⟨j, hj, rfl, hbld, hb⟩ := hrel
        have hb' : Below (w.alloc (.cells #[.slice A n c, .slice B m d] 36)).heap.size (w.alloc (.cells #[.slice A n c, .slice B m d] 36)) wr := by rw [HSZ.out]; exact hb
        have hsr : w.heap.size + 1 ≤ wr.heap.size := by have := hb.size; rw [HSZ.out] at this; exact this
        have HBD2 := Lib.hid hbld
        have HB2 := Lib.hid hb
        have HSR := Lib.hid hsr
        by_cases hlt : j < m
        · have hd : decide ((j : Int) < (m : Int)) = true := decide_eq_true (by omega)
          obtain ⟨t, hx⟩ : ∃ t, rs[j]? = some t := ⟨_, List.getElem?_eq_getElem (by rw [← HM.out]; exact hlt)⟩
          obtain ⟨a, rfl, hh⟩ := HR.out j t hx
          have hh2 := hh.below hb'
          have hgt := HOR.out t (List.mem_of_getElem? hx)
          have hsn := flat_snoc rT hx
          have hle := flat_le rT rs (j + 1)
          rw [hsn, List.length_append] at hle
          have hbg := HBIG.out
          rw [prgT_eq, List.length_append] at hbg
          have hrt : (rT t).length = (ruleT t).length + 1 := by unfold rT; simp
          obtain ⟨E, hE⟩ : ∃ E, bs (ruleT t) = E := ⟨_, rfl⟩
          obtain ⟨D, hDD⟩ : ∃ D, bs (rT t) = D := ⟨_, rfl⟩
          have hDs : D.size = (rT t).length := by rw [← hDD, bs_size]
          obtain ⟨⟨Aa, na, ca, hna, hca, d0, d1, htr⟩, Bb, nb, cb, hnb, hcb, d2, hlr⟩ := hh2
          have HRU := Lib.hid (fun (W : World) (h : TermsRd W Aa t.h.a) (h2 : LitsRd W Bb t.b) (hw : TabW W) => (show Calls Tryz.prog 28 #[.agg #[.string (bs t.h.p), .slice Aa na ca, .slice Bb nb cb]] W (fun e w' => e = .returned (.string E) ∧ Below W.heap.size W w') from by rw [← hE]; exact prRule_calls Aa Bb na ca nb cb t W hna hnb h h2 hgt (by omega) hw))
          have HTG := Lib.hid (fun (W : World) => (show Calls Tryz.prog 40 #[.slice (some ⟨W.heap.size, 0, none⟩) 2 2] (W.alloc (.cells #[.string E, .string ⟨#[10]⟩] 9)) (fun e w' => e = .returned (.string D) ∧ Below W.heap.size W w') from by
            have e1 : (txs [E, bs [10]]).flatten = rT t := by rw [← hE]; simp [txs, bs_data, rT]
            have h := tog_new [E, bs [10]] W (by rw [e1]; omega) (by simp)
            rw [e1, hDD] at h
            exact h))
          have HSN := Lib.hid (show Lib.byteCells (ds.flatMap dT ++ (rs.take j).flatMap rT) ++ Lib.strCells D = Lib.byteCells (ds.flatMap dT ++ (rs.take (j + 1)).flatMap rT) by
            rw [hsn, ← List.append_assoc, byteCells_app _ (rT t), ← hDD, bsCells])
          have HLE := Lib.hid (show (Lib.byteCells (ds.flatMap dT ++ (rs.take j).flatMap rT)).length + D.size ≤ 140737488355328 by rw [Lib.byteCells_length, hDs, List.length_append]; omega)
          have hbx := (Below.refl wr.heap.size wr).alloc (Nat.le_refl _) (.cells #[.string (bs t.h.p), .slice Aa na ca, .slice Bb nb cb] 50)
          have HBX := Lib.hid hbx
          have HWr := Lib.hid ((HW.out.below hb').below hbx)
          have HTr := Lib.hid (htr.below hbx)
          have HLr := Lib.hid (hlr.below hbx)
          clear hbld hb hb' hh hgt hsn hle hbg hE hDD hDs hx hbx hsr hrt hna hca htr hnb hcb hlr
          go_wp2_with (first
            | (go_at_call 28; ((with_reducible refine (HRU.out _ HTr.out HLr.out HWr.out).mono ?_); rintro e w2 ⟨rfl, hb2⟩; have HBx2 := Lib.hid (HBX.out.trans (hb2.mono HBX.out.size)); clear hb2))
            | (go_at_call 40; ((with_reducible refine (HTG.out w2).mono ?_); rintro e w3 ⟨rfl, hb3⟩; have HBx3 := Lib.hid (HBx2.out.trans (hb3.mono HBx2.out.size)); have HBD3 := Lib.hid (isbld_below HBD2.out HBx3.out); clear hb3))
            | (go_at_call 39; ((with_reducible refine (bwrite_calls _ _ _ _ _ HBD3.out HLE.out (Nat.le_trans HSR.out HBx3.out.size)).mono ?_); rintro e w4 ⟨rfl, h4, hb4⟩; rw [HSN.out] at h4; have H4 := Lib.hid h4; have HB4 := Lib.hid ((HB2.out.trans (HBx3.out.mono HSR.out)).trans hb4); clear h4 hb4)))
          go_roundw
          case rel => exact ⟨j + 1, hlt, by simp, .inr H4.out, HB4.out⟩
          case measure => simp [intOf]; omega
        · have hjn : m = j := by omega
          subst hjn
          have hd : decide ((m : Int) < (m : Int)) = false := decide_eq_false (by omega)
          have hall : rs.take m = rs := List.take_of_length_le (by rw [← HM.out]; exact Nat.le_refl _)
          rw [hall, ← prgT_eq] at hbld
          have HBD3 := Lib.hid hbld
          clear hbld hb hb' hlt hj hall hsr
          go_wp2_with (go_at_call 42; ((with_reducible refine (Tryz.Builder_String_any_k _ _ _ _ HBD3.out HSR.out).mono ?_); rintro e w2 ⟨rfl, _, hb2, _⟩; have HB3 := Lib.hid (HB2.out.trans hb2); clear hb2))
          go_ret
          refine ⟨rfl, HBL.out.trans (HB3.out.mono (Nat.le_succ _))⟩
end Go.Proofs.YtminbdcabacfbaaGreatDoor.V

namespace Go.Proofs.YtminbdcabacfbaaGreatDoor.V
set_option linter.unusedVariables false
set_option linter.unusedSimpArgs false
open Go.RowKit

theorem ne_self_str (s : ByteArray) : (s.toList != s.toList) = false := by simp
theorem ne_self_bool (s : Bool) : (s != s) = false := by simp
theorem ne_self_int (s : Int) : (s != s) = false := by simp

set_option maxRecDepth 100000 in
set_option maxHeartbeats 8000000 in
theorem smAtom_calls (p : List UInt8) (xs : List TermL) (A B : Option Addr) (n c d : Nat) (w : World) (hn : n = xs.length) (hn2 : n ≤ 1000000000) (h1 : TermsRd w A xs) (h2 : TermsRd w B xs) :
    Calls Tryz.prog 13 #[.agg #[.string (bs p), .slice A n c], .agg #[.string (bs p), .slice B n d]] w fun e w' => e = .returned (.bool true) ∧ Below w.heap.size w w' := by
  have H1 := Lib.hid h1
  have H2 := Lib.hid h2
  have HN := Lib.hid hn
  have hpp : ((bs p).toList != (bs p).toList) = false := ne_self_str _
  have hnn : ((n : Int) != (n : Int)) = false := ne_self_int _
  have hb0 := ((Below.refl w.heap.size w).alloc (Nat.le_refl _) (.cells #[.string (bs p), .slice A n c] 25)).alloc (by simp) (.cells #[.string (bs p), .slice B n d] 25)
  have HB0 := Lib.hid hb0
  have HA1 := Lib.hid (show IsAt w.heap.size (.string (bs p)) (.slice A n c) ((w.alloc (.cells #[.string (bs p), .slice A n c] 25)).alloc (.cells #[.string (bs p), .slice B n d] 25)) from (IsAt.new w).alloc _)
  have HA2 := Lib.hid (show IsAt (w.heap.size + 1) (.string (bs p)) (.slice B n d) ((w.alloc (.cells #[.string (bs p), .slice A n c] 25)).alloc (.cells #[.string (bs p), .slice B n d] 25)) from by have h := IsAt.new (v0 := .string (bs p)) (v1 := .slice B n d) (w.alloc (.cells #[.string (bs p), .slice A n c] 25)); rwa [World.size_alloc] at h)
  have hw0g : ∃ w0, (w.alloc (.cells #[.string (bs p), .slice A n c] 25)).alloc (.cells #[.string (bs p), .slice B n d] 25) = w0 := ⟨_, rfl⟩
  clear h1 h2 hn hb0
  go_enter Tryz.func13, Tryz.ntmps13
  go_wp2_with fail
  obtain ⟨w0, hw0⟩ := hw0g
  rw [hw0] at HB0 HA1 HA2 ⊢
  go_loopw [5] (fun i wr => ∃ j : Nat, j ≤ n ∧ i = .int .i64 (j : Int) ∧ Below w0.heap.size w0 wr) (fun i _ => n + 1 - (intOf i).toNat)
  case atStart => exact ⟨0, Nat.zero_le _, rfl, Below.refl _ _⟩
  case round =>
    obtain ⟨j, hj, rfl, hb⟩ := hrel
    have HB := Lib.hid hb
    have a1 := cell_below hb HA1.out.c1
    have a2 := cell_below hb HA2.out.c1
    by_cases hlt : j < n
    · have hd : decide ((j : Int) < (n : Int)) = true := decide_eq_true (by omega)
      obtain ⟨x, hx⟩ : ∃ x, xs[j]? = some x := ⟨_, List.getElem?_eq_getElem (by rw [← HN.out]; exact hlt)⟩
      obtain ⟨g1, rfl, hc1⟩ := H1.out j x hx
      obtain ⟨g2, rfl, hc2⟩ := H2.out j x hx
      have hc1' := (hc1.below HB0.out).below hb
      have hc2' := (hc2.below HB0.out).below hb
      obtain ⟨xv, xx, xs', xt, xn⟩ := x
      have p0 := hc1'.c0
      have p1 := hc1'.c1
      have p2 := hc1'.c2
      have p3 := hc1'.c3
      have p4 := hc1'.c4
      have q0 := hc2'.c0
      have q1 := hc2'.c1
      have q2 := hc2'.c2
      have q3 := hc2'.c3
      have q4 := hc2'.c4
      have n0 := ne_self_bool xv
      have n1 := ne_self_str (bs xx)
      have n2 := ne_self_bool xs'
      have n3 := ne_self_str (bs xt)
      have n4 := ne_self_int xn
      clear hb hc1 hc2 hc1' hc2' hx
      go_wp2_with fail
      go_quiet (fail)
      go_wp2_with fail
      go_roundw
      case rel => exact ⟨j + 1, hlt, by simp, HB.out.trans ⟨rfl, rfl, rfl, Nat.le_refl _, fun _ _ => rfl⟩⟩
      case measure => simp [intOf]; omega
    · have hjn : j = n := by omega
      subst hjn
      have hd : decide ((j : Int) < (j : Int)) = false := decide_eq_false (by omega)
      clear hb hlt hj
      go_wp2_with fail
      go_ret
      exact ⟨rfl, HB0.out.trans (HB.out.mono HB0.out.size)⟩
end Go.Proofs.YtminbdcabacfbaaGreatDoor.V

namespace Go.Proofs.YtminbdcabacfbaaGreatDoor.V
set_option linter.unusedVariables false
set_option linter.unusedSimpArgs false
open Go.RowKit

set_option maxRecDepth 100000 in
set_option maxHeartbeats 16000000 in
theorem smRule_calls (x : RuleL) (A1 B1 A2 B2 : Option Addr) (n m c1 d1 c2 d2 : Nat) (w : World) (hn : n = x.h.a.length) (hm : m = x.b.length) (hn2 : n ≤ 1000000000) (hm2 : m ≤ 1000000000) (h1 : TermsRd w A1 x.h.a) (h2 : TermsRd w A2 x.h.a) (g1 : LitsRd w B1 x.b) (g2 : LitsRd w B2 x.b) (hk : ∀ l ∈ x.b, 1 ≤ l.k ∧ l.a.a.length ≤ 1000000000) :
    Calls Tryz.prog 53 #[.agg #[.string (bs x.h.p), .slice A1 n c1, .slice B1 m d1], .agg #[.string (bs x.h.p), .slice A2 n c2, .slice B2 m d2]] w fun e w' => e = .returned (.bool true) ∧ Below w.heap.size w w' := by
  obtain ⟨⟨p, la⟩, lb⟩ := x
  dsimp only at hn hm h1 h2 g1 g2 hk ⊢
  have hmm : ((m : Int) != (m : Int)) = false := ne_self_int _
  have hb0 := ((Below.refl w.heap.size w).alloc (Nat.le_refl _) (.cells #[.string (bs p), .slice A1 n c1, .slice B1 m d1] 50)).alloc (by simp) (.cells #[.string (bs p), .slice A2 n c2, .slice B2 m d2] 50)
  have hn1 := (((Below.refl (w.alloc (.cells #[.string (bs p), .slice A1 n c1, .slice B1 m d1] 50)).heap.size (w.alloc (.cells #[.string (bs p), .slice A1 n c1, .slice B1 m d1] 50))).alloc (Nat.le_refl _) (.cells #[.string (bs p), .slice A2 n c2, .slice B2 m d2] 50)).block w.heap.size (by simp)).trans (heap_alloc_new w (.cells #[.string (bs p), .slice A1 n c1, .slice B1 m d1] 50))
  have hn2' := heap_alloc_new (w.alloc (.cells #[.string (bs p), .slice A1 n c1, .slice B1 m d1] 50)) (.cells #[.string (bs p), .slice A2 n c2, .slice B2 m d2] 50)
  rw [World.size_alloc] at hn2'
  have HB0 := Lib.hid hb0
  have HN1 := Lib.hid hn1
  have HN2 := Lib.hid hn2'
  have H1 := Lib.hid (h1.below hb0)
  have H2 := Lib.hid (h2.below hb0)
  have G1 := Lib.hid (g1.below hb0)
  have G2 := Lib.hid (g2.below hb0)
  have HM := Lib.hid hm
  have HK := Lib.hid hk
  have HSA := Lib.hid (fun (W : World) (u1 : TermsRd W A1 la) (u2 : TermsRd W A2 la) => smAtom_calls p la A1 A2 n c1 c2 W hn hn2 u1 u2)
  have p0 := cell_of_row _ _ 0 _ _ _ hn1
  have p1 := cell_of_row _ _ 1 _ _ _ hn1
  have q0 := cell_of_row _ _ 0 _ _ _ hn2'
  have q1 := cell_of_row _ _ 1 _ _ _ hn2'
  clear hb0 hn1 hn2' h1 h2 g1 g2 hn hm hk
  go_enter Tryz.func53, Tryz.ntmps53
  go_wp2_with (go_at_call 13; ((with_reducible refine (HSA.out _ H1.out H2.out).mono ?_); rintro e w2 ⟨rfl, hb2⟩; have HB2 := Lib.hid hb2; have s2 := cell_below hb2 (cell_of_row _ _ 2 _ _ _ HN1.out); have t2 := cell_below hb2 (cell_of_row _ _ 2 _ _ _ HN2.out); have HS2 := Lib.hid s2; have HT2 := Lib.hid t2; clear hb2))
  go_loopw [5] (fun i wr => ∃ j : Nat, j ≤ m ∧ i = .int .i64 (j : Int) ∧ Below w2.heap.size w2 wr) (fun i _ => m + 1 - (intOf i).toNat)
  case atStart => exact ⟨0, Nat.zero_le _, rfl, Below.refl _ _⟩
  case round =>
    obtain ⟨j, hj, rfl, hb⟩ := hrel
    have HB := Lib.hid hb
    have a1 := cell_below hb HS2.out
    have a2 := cell_below hb HT2.out
    by_cases hlt : j < m
    · have hd : decide ((j : Int) < (m : Int)) = true := decide_eq_true (by omega)
      obtain ⟨t, hx⟩ : ∃ t, lb[j]? = some t := ⟨_, List.getElem?_eq_getElem (by rw [← HM.out]; exact hlt)⟩
      obtain ⟨r1, rfl, hc1⟩ := G1.out j t hx
      obtain ⟨r2, rfl, hc2⟩ := G2.out j t hx
      have hkk := HK.out t (List.mem_of_getElem? hx)
      obtain ⟨kk, Aa, na, ca, k1, k2, k3, htr, x0, x1, x2, x3, x4, x5, x6, x7, x8, x9, x10, x11, x12, x13⟩ := ((hc1.below HB2.out).below hb).open
      obtain ⟨kk', Ab, nb, cb, l1, l2, l3, htr2, y0, y1, y2, y3, y4, y5, y6, y7, y8, y9, y10, y11, y12, y13⟩ := ((hc2.below HB2.out).below hb).open
      obtain rfl : kk' = kk := by omega
      obtain rfl : nb = na := by omega
      have hbx1 := (Below.refl wr.heap.size wr).alloc (Nat.le_refl _) (.cells #[.int .i64 kk', .string (bs t.a.p), .slice Aa nb ca, .string (bs t.o), .bool t.l.v, .string (bs t.l.x), .bool t.l.s, .string (bs t.l.t), .int .i64 t.l.n, .bool t.r.v, .string (bs t.r.x), .bool t.r.s, .string (bs t.r.t), .int .i64 t.r.n] 47)
      have hbx := hbx1.alloc (by simp) (.cells #[.int .i64 kk', .string (bs t.a.p), .slice Ab nb cb, .string (bs t.o), .bool t.l.v, .string (bs t.l.x), .bool t.l.s, .string (bs t.l.t), .int .i64 t.l.n, .bool t.r.v, .string (bs t.r.x), .bool t.r.s, .string (bs t.r.t), .int .i64 t.r.n] 47)
      have z0 := cell_below hbx1 y0
      have z1 := cell_below hbx1 y1
      have z2 := cell_below hbx1 y2
      have z3 := cell_below hbx1 y3
      have z4 := cell_below hbx1 y4
      have z5 := cell_below hbx1 y5
      have z6 := cell_below hbx1 y6
      have z7 := cell_below hbx1 y7
      have z8 := cell_below hbx1 y8
      have z9 := cell_below hbx1 y9
      have z10 := cell_below hbx1 y10
      have z11 := cell_below hbx1 y11
      have z12 := cell_below hbx1 y12
      have z13 := cell_below hbx1 y13
      have HSB := Lib.hid (fun (W : World) (u1 : TermsRd W Aa t.a.a) (u2 : TermsRd W Ab t.a.a) => smAtom_calls t.a.p t.a.a Aa Ab nb ca cb W k2 (by omega) u1 u2)
      have HU1 := Lib.hid (htr.below hbx)
      have HU2 := Lib.hid (htr2.below hbx)
      have HBX := Lib.hid hbx
      have hv1 := ((Below.refl _ (wr.alloc (.cells #[.int .i64 kk', .string (bs t.a.p), .slice Aa nb ca, .string (bs t.o), .bool t.l.v, .string (bs t.l.x), .bool t.l.s, .string (bs t.l.t), .int .i64 t.l.n, .bool t.r.v, .string (bs t.r.x), .bool t.r.s, .string (bs t.r.t), .int .i64 t.r.n] 47))).alloc (Nat.le_refl _) (.cells #[.int .i64 kk', .string (bs t.a.p), .slice Ab nb cb, .string (bs t.o), .bool t.l.v, .string (bs t.l.x), .bool t.l.s, .string (bs t.l.t), .int .i64 t.l.n, .bool t.r.v, .string (bs t.r.x), .bool t.r.s, .string (bs t.r.t), .int .i64 t.r.n] 47)).block wr.heap.size (by simp)
      have hv1' := hv1.trans (heap_alloc_new wr (.cells #[.int .i64 kk', .string (bs t.a.p), .slice Aa nb ca, .string (bs t.o), .bool t.l.v, .string (bs t.l.x), .bool t.l.s, .string (bs t.l.t), .int .i64 t.l.n, .bool t.r.v, .string (bs t.r.x), .bool t.r.s, .string (bs t.r.t), .int .i64 t.r.n] 47))
      have hv2 := heap_alloc_new (wr.alloc (.cells #[.int .i64 kk', .string (bs t.a.p), .slice Aa nb ca, .string (bs t.o), .bool t.l.v, .string (bs t.l.x), .bool t.l.s, .string (bs t.l.t), .int .i64 t.l.n, .bool t.r.v, .string (bs t.r.x), .bool t.r.s, .string (bs t.r.t), .int .i64 t.r.n] 47)) (.cells #[.int .i64 kk', .string (bs t.a.p), .slice Ab nb cb, .string (bs t.o), .bool t.l.v, .string (bs t.l.x), .bool t.l.s, .string (bs t.l.t), .int .i64 t.l.n, .bool t.r.v, .string (bs t.r.x), .bool t.r.s, .string (bs t.r.t), .int .i64 t.r.n] 47)
      rw [World.size_alloc] at hv2
      have v0 := cell_of_row _ _ 0 _ _ _ hv1'
      have u0 := cell_of_row _ _ 0 _ _ _ hv2
      have v1 := cell_of_row _ _ 1 _ _ _ hv1'
      have u1 := cell_of_row _ _ 1 _ _ _ hv2
      have v2 := cell_of_row _ _ 2 _ _ _ hv1'
      have u2 := cell_of_row _ _ 2 _ _ _ hv2
      have v3 := cell_of_row _ _ 3 _ _ _ hv1'
      have u3 := cell_of_row _ _ 3 _ _ _ hv2
      have v4 := cell_of_row _ _ 4 _ _ _ hv1'
      have u4 := cell_of_row _ _ 4 _ _ _ hv2
      have v5 := cell_of_row _ _ 5 _ _ _ hv1'
      have u5 := cell_of_row _ _ 5 _ _ _ hv2
      have v6 := cell_of_row _ _ 6 _ _ _ hv1'
      have u6 := cell_of_row _ _ 6 _ _ _ hv2
      have v7 := cell_of_row _ _ 7 _ _ _ hv1'
      have u7 := cell_of_row _ _ 7 _ _ _ hv2
      have v8 := cell_of_row _ _ 8 _ _ _ hv1'
      have u8 := cell_of_row _ _ 8 _ _ _ hv2
      have v9 := cell_of_row _ _ 9 _ _ _ hv1'
      have u9 := cell_of_row _ _ 9 _ _ _ hv2
      have v10 := cell_of_row _ _ 10 _ _ _ hv1'
      have u10 := cell_of_row _ _ 10 _ _ _ hv2
      have v11 := cell_of_row _ _ 11 _ _ _ hv1'
      have u11 := cell_of_row _ _ 11 _ _ _ hv2
      have v12 := cell_of_row _ _ 12 _ _ _ hv1'
      have u12 := cell_of_row _ _ 12 _ _ _ hv2
      have v13 := cell_of_row _ _ 13 _ _ _ hv1'
      have u13 := cell_of_row _ _ 13 _ _ _ hv2
      have a3 := cell_below hbx1 a1
      have a4 := cell_below hbx1 a2
      have n0 := ne_self_int kk'
      have n1 := ne_self_str (bs t.o)
      have n2 := ne_self_bool t.l.v
      have n3 := ne_self_str (bs t.l.x)
      have n4 := ne_self_bool t.l.s
      have n5 := ne_self_str (bs t.l.t)
      have n6 := ne_self_int t.l.n
      have n7 := ne_self_bool t.r.v
      have n8 := ne_self_str (bs t.r.x)
      have n9 := ne_self_bool t.r.s
      have n10 := ne_self_str (bs t.r.t)
      have n11 := ne_self_int t.r.n
      clear hb hc1 hc2 hx hkk k1 k2 k3 l1 l2 l3 htr htr2 hbx hbx1 hv1 hv1' hv2
      go_wp2_with (go_at_call 13; ((with_reducible refine (HSB.out _ HU1.out HU2.out).mono ?_); rintro e w3 ⟨rfl, hb3⟩; have HB3 := Lib.hid (HBX.out.trans (hb3.mono HBX.out.size)); clear hb3))
      go_roundw
      case rel => exact ⟨j + 1, hlt, by simp, HB.out.trans (HB3.out.mono HB.out.size)⟩
      case measure => simp [intOf]; omega
    · have hjn : m = j := by omega
      subst hjn
      have hd : decide ((m : Int) < (m : Int)) = false := decide_eq_false (by omega)
      clear hb hlt hj
      go_wp2_with fail
      go_ret
      exact ⟨rfl, HB0.out.trans ((HB2.out.trans (HB.out.mono HB2.out.size)).mono HB0.out.size)⟩
end Go.Proofs.YtminbdcabacfbaaGreatDoor.V
