/- The document's Same of two that are the same. What the parser lays, read; the example of law 07. lambrequinlaw07.shown: the document's example. The printer's contracts, ready for the laws. lambrequinlaw07.few: whether a program is not too great: it ends, whatever it says. lambrequinlaw07.PrinterBack: what may be is printed, and parsed as it was, if its text isn't too long. Arguments that are atoms, literals, rules, facts, programs, opened. parse.Atom: a text's atom. lambrequinlaw07.PrinterAtoms: an atom that may be is printed, and parsed as it was. -/
import Derived.Deep.Slices
import Derived.Test.YtminbdcabacfbaaGreatDoorKB11
namespace Go.Proofs.YtminbdcabacfbaaGreatDoor.V
set_option linter.unusedVariables false
set_option linter.unusedSimpArgs false
open Go.RowKit

set_option maxRecDepth 100000 in
set_option maxHeartbeats 16000000 in
theorem same_calls7 (ds : List DeclL) (rs : List RuleL) (A1 B1 A2 B2 : Option Addr) (n m c1 d1 c2 d2 : Nat) (w : World) (hn : n = ds.length) (hm : m = rs.length) (hn2 : n ≤ 1000000000) (hm2 : m ≤ 1000000000) (h1 : DeclsRd w A1 ds) (h2 : DeclsRd w A2 ds) (g1 : RulesRd w B1 rs) (g2 : RulesRd w B2 rs) (hk : ∀ r ∈ rs, r.h.a.length ≤ 1000000000 ∧ r.b.length ≤ 1000000000 ∧ ∀ l ∈ r.b, 1 ≤ l.k ∧ l.a.a.length ≤ 1000000000) :
    Calls Tryz.prog 21 #[.agg #[.slice A1 n c1, .slice B1 m d1], .agg #[.slice A2 n c2, .slice B2 m d2]] w fun e w' => e = .returned (.bool true) ∧ Below w.heap.size w w' := by
  have hnn : ((n : Int) != (n : Int)) = false := ne_self_int _
  have hmm : ((m : Int) != (m : Int)) = false := ne_self_int _
  have hb0 := ((Below.refl w.heap.size w).alloc (Nat.le_refl _) (.cells #[.slice A1 n c1, .slice B1 m d1] 36)).alloc (by simp) (.cells #[.slice A2 n c2, .slice B2 m d2] 36)
  have hn1 := (((Below.refl (w.alloc (.cells #[.slice A1 n c1, .slice B1 m d1] 36)).heap.size (w.alloc (.cells #[.slice A1 n c1, .slice B1 m d1] 36))).alloc (Nat.le_refl _) (.cells #[.slice A2 n c2, .slice B2 m d2] 36)).block w.heap.size (by simp)).trans (heap_alloc_new w (.cells #[.slice A1 n c1, .slice B1 m d1] 36))
  have hn2' := heap_alloc_new (w.alloc (.cells #[.slice A1 n c1, .slice B1 m d1] 36)) (.cells #[.slice A2 n c2, .slice B2 m d2] 36)
  rw [World.size_alloc] at hn2'
  have HB0 := Lib.hid hb0
  have HN1 := Lib.hid hn1
  have HN2 := Lib.hid hn2'
  have H1 := Lib.hid (h1.below hb0)
  have H2 := Lib.hid (h2.below hb0)
  have G1 := Lib.hid (g1.below hb0)
  have G2 := Lib.hid (g2.below hb0)
  have HN := Lib.hid hn
  have HM := Lib.hid hm
  have HK := Lib.hid hk
  have p0 := cell_of_row _ _ 0 _ _ _ hn1
  have p1 := cell_of_row _ _ 1 _ _ _ hn1
  have q0 := cell_of_row _ _ 0 _ _ _ hn2'
  have q1 := cell_of_row _ _ 1 _ _ _ hn2'
  have P0 := Lib.hid p0
  have P1 := Lib.hid p1
  have Q0 := Lib.hid q0
  have Q1 := Lib.hid q1
  have hw0g : ∃ w0, (w.alloc (.cells #[.slice A1 n c1, .slice B1 m d1] 36)).alloc (.cells #[.slice A2 n c2, .slice B2 m d2] 36) = w0 := ⟨_, rfl⟩
  clear hb0 hn1 hn2' h1 h2 g1 g2 hn hm hk
  go_enter Tryz.func21, Tryz.ntmps21
  go_wp2_with fail
  obtain ⟨w0, hw0⟩ := hw0g
  rw [hw0] at HB0 HN1 HN2 H1 H2 G1 G2 P0 P1 Q0 Q1 ⊢
  clear p0 p1 q0 q1
  go_loopw [5] (fun i wr => ∃ j : Nat, j ≤ n ∧ i = .int .i64 (j : Int) ∧ Below w0.heap.size w0 wr) (fun i _ => n + 1 - (intOf i).toNat)
  case atStart => exact ⟨0, Nat.zero_le _, rfl, Below.refl _ _⟩
  case round =>
    obtain ⟨j, hj, rfl, hb⟩ := hrel
    have HB := Lib.hid hb
    have a1 := cell_below hb P0.out
    have a2 := cell_below hb Q0.out
    by_cases hlt : j < n
    · have hd : decide ((j : Int) < (n : Int)) = true := decide_eq_true (by omega)
      obtain ⟨x, hx⟩ : ∃ x, ds[j]? = some x := ⟨_, List.getElem?_eq_getElem (by rw [← HN.out]; exact hlt)⟩
      obtain ⟨r1, rfl, hc1⟩ := H1.out j x hx
      obtain ⟨r2, rfl, hc2⟩ := H2.out j x hx
      have hc1' := hc1.below hb
      have hc2' := hc2.below hb
      obtain ⟨xp, xn⟩ := x
      have p0 := hc1'.c0
      have p1 := hc1'.c1
      have q0 := hc2'.c0
      have q1 := hc2'.c1
      have n0 := ne_self_str (bs xp)
      have n4 := ne_self_int xn
      clear hb hc1 hc2 hc1' hc2' hx
      go_wp2_with fail
      go_quiet (fail)
      go_wp2_with fail
      go_roundw
      case rel => exact ⟨j + 1, hlt, by simp, HB.out.trans ⟨rfl, rfl, rfl, Nat.le_refl _, fun _ _ => rfl⟩⟩
      case measure => simp [intOf]; omega
    · have hjn : n = j := by omega
      subst hjn
      have hd : decide ((n : Int) < (n : Int)) = false := decide_eq_false (by omega)
      obtain ⟨U, hU⟩ : ∃ U, wr = U := ⟨_, rfl⟩
      have HBU := Lib.hid hb
      rw [hU] at HBU HB a1 a2 ⊢
      clear hb hlt hj hU
      go_wp2_with fail
      go_loopw [6] (fun i wq => ∃ j : Nat, j ≤ m ∧ i = .int .i64 (j : Int) ∧ Below w0.heap.size w0 wq) (fun i _ => m + 1 - (intOf i).toNat)
      case atStart => exact ⟨0, Nat.zero_le _, rfl, HBU.out⟩
      case round =>
        obtain ⟨j, hj, rfl, hb⟩ := hrel
        have HBQ := Lib.hid hb
        have b1 := cell_below hb P1.out
        have b2 := cell_below hb Q1.out
        by_cases hlt : j < m
        · have hd : decide ((j : Int) < (m : Int)) = true := decide_eq_true (by omega)
          obtain ⟨t, hx⟩ : ∃ t, rs[j]? = some t := ⟨_, List.getElem?_eq_getElem (by rw [← HM.out]; exact hlt)⟩
          obtain ⟨r1, rfl, hc1⟩ := G1.out j t hx
          obtain ⟨r2, rfl, hc2⟩ := G2.out j t hx
          have hkk := HK.out t (List.mem_of_getElem? hx)
          have hc1' := hc1.below hb
          have hc2' := hc2.below hb
          obtain ⟨⟨Aa, na, ca, k1, k2, x0, x1, htr⟩, Ba, ma, da, k3, k4, x2, hlr⟩ := hc1'
          obtain ⟨⟨Ab, nb, cb, l1, l2, y0, y1, htr2⟩, Bb, mb, db, l3, l4, y2, hlr2⟩ := hc2'
          obtain rfl : nb = na := by omega
          obtain rfl : mb = ma := by omega
          have HSR := Lib.hid (fun (W : World) (u1 : TermsRd W Aa t.h.a) (u2 : TermsRd W Ab t.h.a) (u3 : LitsRd W Ba t.b) (u4 : LitsRd W Bb t.b) => smRule_calls t Aa Ba Ab Bb nb mb ca da cb db W k1 k3 (by omega) (by omega) u1 u2 u3 u4 hkk.2.2)
          have hbd := (Below.refl wr.heap.size wr).drew
          have HT1 := Lib.hid (htr.below hbd)
          have HT2 := Lib.hid (htr2.below hbd)
          have HL1 := Lib.hid (hlr.below hbd)
          have HL2 := Lib.hid (hlr2.below hbd)
          have HBD := Lib.hid hbd
          clear hb hc1 hc2 hx hkk k1 k2 k3 k4 l1 l2 l3 l4 htr htr2 hlr hlr2 hbd
          go_wp2_with fail
          go_region_with (go_at_call 53; ((with_reducible refine (HSR.out _ HT1.out HT2.out HL1.out HL2.out).mono ?_); rintro e w3 ⟨rfl, hb3⟩; have HB3 := Lib.hid (HBD.out.trans (hb3.mono HBD.out.size)); clear hb3))
          all_goals
            go_wp2_with fail
            go_roundw
            case rel => exact ⟨j + 1, hlt, by simp, HBQ.out.trans (HB3.out.mono HBQ.out.size)⟩
            case measure => simp [intOf]; omega
        · have hjn : m = j := by omega
          subst hjn
          have hd : decide ((m : Int) < (m : Int)) = false := decide_eq_false (by omega)
          clear hb hlt hj
          go_wp2_with fail
          go_ret
          exact ⟨rfl, HB0.out.trans (HBQ.out.mono HB0.out.size)⟩
end Go.Proofs.YtminbdcabacfbaaGreatDoor.V

namespace Go.Proofs.YtminbdcabacfbaaGreatDoor.V
set_option linter.unusedVariables false
set_option linter.unusedSimpArgs false
open Go.RowKit

theorem terms_at_rd {W : World} {B n c : Nat} {A : Option Addr} {L : List TermL} (h : TermsAt B W L (.slice A n c)) : n = L.length ∧ n ≤ c ∧ TermsRd W A L := by
  unfold TermsAt at h
  obtain ⟨A', c', e⟩ := o_slice h
  injection e with _ e2 _
  subst e2
  exact ⟨rfl, own_cap h, terms_rd h rfl⟩
theorem lits_at_rd {W : World} {B n c : Nat} {A : Option Addr} {L : List LitL} (h : LitsAt B W L (.slice A n c)) : n = L.length ∧ n ≤ c ∧ LitsRd W A L := by
  obtain ⟨ps, rfl, ho, hp⟩ := h
  obtain ⟨A', c', e⟩ := o_slice ho
  injection e with _ e2 _
  subst e2
  refine ⟨by simp, own_cap ho, fun j t hj => ?_⟩
  rw [List.getElem?_map, Option.map_eq_some_iff] at hj
  obtain ⟨p, hpj, rfl⟩ := hj
  obtain ⟨g, rfl, hc⟩ := flat_row (fun p : LitL × Value => litC p.1 p.2) (fun x => rfl) ho rfl hpj
  have ht := hp p (List.mem_of_getElem? hpj)
  obtain ⟨A2, c2, e2⟩ := o_slice ht
  obtain ⟨k1, k2, k3⟩ := terms_at_rd (by rw [← e2]; exact ht)
  refine ⟨_, rfl, ?_⟩
  rw [addr_add]
  have h1 := fun i u hi hu => hc i u hi hu
  exact ⟨⟨(p.1.k : Int), hc 0 _ (by omega) rfl, by simp⟩, ⟨A2, _, c2, k1, k2, hc 1 _ (by omega) rfl, (hc 2 _ (by omega) rfl).trans (by rw [e2]), k3⟩, hc 3 _ (by omega) rfl,
    ⟨hc 4 _ (by omega) rfl, hc 5 _ (by omega) rfl, hc 6 _ (by omega) rfl, hc 7 _ (by omega) rfl, hc 8 _ (by omega) rfl⟩, ⟨hc 9 _ (by omega) rfl, hc 10 _ (by omega) rfl, hc 11 _ (by omega) rfl, hc 12 _ (by omega) rfl, hc 13 _ (by omega) rfl⟩⟩
theorem decls_at_rd {W : World} {B n c : Nat} {A : Option Addr} {L : List DeclL} (h : DeclsAt B W L (.slice A n c)) : n = L.length ∧ n ≤ c ∧ DeclsRd W A L := by
  unfold DeclsAt at h
  obtain ⟨A', c', e⟩ := o_slice h
  injection e with _ e2 _
  subst e2
  refine ⟨rfl, own_cap h, fun j t hj => ?_⟩
  obtain ⟨g, rfl, hc⟩ := flat_row declC (fun x => rfl) h rfl hj
  refine ⟨_, rfl, ?_⟩
  rw [addr_add]
  exact ⟨hc 0 _ (by omega) rfl, hc 1 _ (by omega) rfl⟩
theorem rules_at_rd {W : World} {B n c : Nat} {A : Option Addr} {L : List RuleL} (h : RulesAt B W L (.slice A n c)) : n = L.length ∧ n ≤ c ∧ RulesRd W A L := by
  obtain ⟨qs, rfl, ho, hq⟩ := h
  obtain ⟨A', c', e⟩ := o_slice ho
  injection e with _ e2 _
  subst e2
  refine ⟨by simp, own_cap ho, fun j t hj => ?_⟩
  rw [List.getElem?_map, Option.map_eq_some_iff] at hj
  obtain ⟨q, hqj, rfl⟩ := hj
  obtain ⟨g, rfl, hc⟩ := flat_row ruleC (fun x => rfl) ho rfl hqj
  obtain ⟨ht, hl⟩ := hq q (List.mem_of_getElem? hqj)
  obtain ⟨A2, c2, e2⟩ := o_slice ht
  obtain ⟨k1, k2, k3⟩ := terms_at_rd (by rw [← e2]; exact ht)
  obtain ⟨A3, n3, c3, e3⟩ : ∃ A3 n3 c3, q.2.2 = .slice A3 n3 c3 := by
    obtain ⟨ps, _, hp, _⟩ := hl
    obtain ⟨A3, c3, e3⟩ := o_slice hp
    exact ⟨_, _, _, e3⟩
  obtain ⟨l1, l2, l3⟩ := lits_at_rd (by rw [← e3]; exact hl)
  refine ⟨_, rfl, ?_⟩
  rw [addr_add]
  exact ⟨⟨A2, _, c2, k1, k2, hc 0 _ (by omega) rfl, (hc 1 _ (by omega) rfl).trans (by rw [e2]), k3⟩, A3, n3, c3, l1, l2, (hc 2 _ (by omega) rfl).trans (by rw [e3]), l3⟩
/-- What Parse hands back, read. -/
theorem parse7_ok {s : List UInt8} {ds : List DeclL} {rs : List RuleL} (w : World) (hp : parseL s = .ok (ds, rs)) (hs : s.length ≤ 140737488355328) (hE : ErrW w) :
    Calls Tryz.prog 20 #[.string (bs s)] w fun e w' => Below w.heap.size w w' ∧ ∃ A n c B m d, n = ds.length ∧ m = rs.length ∧ n ≤ 400 ∧ m ≤ 400 ∧ n ≤ c ∧ m ≤ d ∧ e = .returned (.tuple #[.agg #[.slice A n c, .slice B m d], .int .i64 0, .int .i64 0]) ∧ DeclsRd w' A ds ∧ RulesRd w' B rs := by
  refine (parse_calls (bs s) w (by rw [bs_size]; omega) hE).mono ?_
  rintro e w' ⟨hb, h⟩
  rw [bs_data, hp] at h
  obtain ⟨vd, vr, rfl, hd, hr, l1, l2⟩ := h
  obtain ⟨A, c, rfl⟩ := o_slice hd
  obtain ⟨B, m, d, rfl⟩ : ∃ B m d, vr = .slice B m d := by
    obtain ⟨qs, _, hq, _⟩ := hr
    obtain ⟨B, d, e⟩ := o_slice hq
    exact ⟨_, _, _, e⟩
  obtain ⟨k1, k2, k3⟩ := decls_at_rd hd
  obtain ⟨j1, j2, j3⟩ := rules_at_rd hr
  exact ⟨hb, A, _, c, B, m, d, k1, j1, l1, by rw [j1]; exact l2, k2, j2, rfl, k3, j3⟩

def ex7 : List UInt8 := [112, 40, 88, 44, 32, 39, 65, 39, 41, 32, 58, 45, 32, 113, 40, 88, 41, 44, 32, 110, 111, 116, 32, 114, 44, 32, 88, 32, 33, 61, 32, 51, 46]
def vX7 : TermL := ⟨true, [88], false, [], 0⟩
def exR7 : RuleL := ⟨⟨[112], [vX7, ⟨false, [], true, [65], 0⟩]⟩, [⟨1, ⟨[113], [vX7]⟩, [], term0, term0⟩, ⟨2, ⟨[114], []⟩, [], term0, term0⟩, ⟨3, atom0, [33, 61], vX7, ⟨false, [], false, [], 3⟩⟩]⟩
theorem ex7_parse : parseL ex7 = .ok ([], [exR7]) := by kernel_rfl
theorem ex7_rule : ruleT exR7 = ex7 := by kernel_rfl
theorem ex7_prog : prgT [] [exR7] = ex7 ++ [10] := by kernel_rfl
theorem ex7_may : mayP [] [exR7] = true := by kernel_rfl
theorem ex7_ok : RuleOk' exR7 := by
  refine ⟨⟨by decide, ?_⟩, by decide, ?_⟩
  · intro t ht
    simp [exR7] at ht
    rcases ht with rfl | rfl <;> exact ⟨by decide, by decide, by decide⟩
  · intro l hl
    have h3 : ∀ t : TermL, t = vX7 ∨ t = term0 ∨ t = ⟨false, [], false, [], 3⟩ → TermOk t := by
      rintro t (rfl | rfl | rfl) <;> exact ⟨by decide, by decide, by decide⟩
    simp [exR7] at hl
    rcases hl with rfl | rfl | rfl
    · exact ⟨⟨by decide, by intro t ht; simp at ht; subst ht; exact h3 _ (.inl rfl)⟩, h3 _ (.inr (.inl rfl)), h3 _ (.inr (.inl rfl))⟩
    · exact ⟨⟨by decide, by intro t ht; simp at ht⟩, h3 _ (.inr (.inl rfl)), h3 _ (.inr (.inl rfl))⟩
    · exact ⟨⟨by decide, by intro t ht; simp [atom0] at ht⟩, h3 _ (.inl rfl), h3 _ (.inr (.inr rfl))⟩
theorem ex7_sz : RuleSz exR7 := by
  have h3 : ∀ t : TermL, t = vX7 ∨ t = term0 ∨ t = ⟨false, [], false, [], 3⟩ ∨ t = ⟨false, [], true, [65], 0⟩ → TermSz t := by
    rintro t (rfl | rfl | rfl | rfl) <;> (unfold TermSz; decide)
  refine ⟨⟨by decide, by decide, ?_⟩, by decide, ?_⟩
  · intro t ht
    simp [exR7] at ht
    rcases ht with rfl | rfl
    · exact h3 _ (.inl rfl)
    · exact h3 _ (.inr (.inr (.inr rfl)))
  · intro l hl
    simp [exR7] at hl
    rcases hl with rfl | rfl | rfl
    · exact ⟨⟨by decide, by decide, by intro t ht; simp at ht; subst ht; exact h3 _ (.inl rfl)⟩, h3 _ (.inr (.inl rfl)), h3 _ (.inr (.inl rfl))⟩
    · exact ⟨⟨by decide, by decide, by intro t ht; simp at ht⟩, h3 _ (.inr (.inl rfl)), h3 _ (.inr (.inl rfl))⟩
    · exact ⟨⟨by decide, by decide, by intro t ht; simp [atom0] at ht⟩, h3 _ (.inl rfl), h3 _ (.inr (.inr (.inl rfl)))⟩
end Go.Proofs.YtminbdcabacfbaaGreatDoor.V

namespace Go.Proofs.YtminbdcabacfbaaGreatDoor.V
set_option linter.unusedVariables false
set_option linter.unusedSimpArgs false
open Go.RowKit

set_option maxRecDepth 100000 in
set_option maxHeartbeats 16000000 in
theorem shown7_calls (w : World) (hE : ErrW w) (hW : TabW w) :
    Calls Tryz.prog 14 #[] w fun e w' => e = .returned (.bool true) ∧ Below w.heap.size w w' := by
  have HE := Lib.hid hE
  have HW := Lib.hid hW
  have HPA := Lib.hid (fun (W : World) (h : ErrW W) => (show Calls Tryz.prog 20 #[.string ⟨#[112, 40, 88, 44, 32, 39, 65, 39, 41, 32, 58, 45, 32, 113, 40, 88, 41, 44, 32, 110, 111, 116, 32, 114, 44, 32, 88, 32, 33, 61, 32, 51, 46]⟩] W (fun e w' => Below W.heap.size W w' ∧ ∃ A n c B m d, n = ([] : List DeclL).length ∧ m = [exR7].length ∧ n ≤ 400 ∧ m ≤ 400 ∧ n ≤ c ∧ m ≤ d ∧ e = .returned (.tuple #[.agg #[.slice A n c, .slice B m d], .int .i64 0, .int .i64 0]) ∧ DeclsRd w' A [] ∧ RulesRd w' B [exR7]) from parse7_ok W ex7_parse (by decide) h))
  have hadd : ∀ W, (Op.stringOp .add (⟨#[112, 40, 88, 44, 32, 39, 65, 39, 41, 32, 58, 45, 32, 113, 40, 88, 41, 44, 32, 110, 111, 116, 32, 114, 44, 32, 88, 32, 33, 61, 32, 51, 46]⟩ : ByteArray) ⟨#[10]⟩).run Tryz.prog W = .ok (.string (bs (ex7 ++ [10]))) W := fun W => run_string_add_sum W _ _ (by decide)
  have HRU := Lib.hid (fun (Aa Ba : Option Addr) (na ca ma da : Nat) (W : World) (k1 : na = exR7.h.a.length) (k3 : ma = exR7.b.length) (h : TermsRd W Aa exR7.h.a) (h2 : LitsRd W Ba exR7.b) (hw : TabW W) => (show Calls Tryz.prog 28 #[.agg #[.string (bs exR7.h.p), .slice Aa na ca, .slice Ba ma da]] W (fun e w' => e = .returned (.string ⟨#[112, 40, 88, 44, 32, 39, 65, 39, 41, 32, 58, 45, 32, 113, 40, 88, 41, 44, 32, 110, 111, 116, 32, 114, 44, 32, 88, 32, 33, 61, 32, 51, 46]⟩) ∧ Below W.heap.size W w') from by
    have h := prRule_calls Aa Ba na ca ma da exR7 W k1 k3 h h2 ex7_ok (by rw [ex7_rule]; decide) hw
    rw [ex7_rule] at h
    exact h))
  have HPR := Lib.hid (fun (A B : Option Addr) (c d : Nat) (W : World) (hd : DeclsRd W A []) (hr : RulesRd W B [exR7]) (hw : TabW W) => (show Calls Tryz.prog 16 #[.agg #[.slice A 0 c, .slice B 1 d]] W (fun e w' => e = .returned (.string (bs (ex7 ++ [10]))) ∧ Below W.heap.size W w') from by
    have h := prProg_calls A B 0 c 1 d [] [exR7] W rfl rfl hd hr (by simp) (by intro r hr; rw [List.mem_singleton.1 hr]; exact ex7_ok) (by rw [ex7_prog]; decide) (by decide) (by decide) hw
    rw [ex7_prog] at h
    exact h))
  have HMY := Lib.hid (fun (A B : Option Addr) (c d : Nat) (W : World) (hd : DeclsRd W A []) (hr : RulesRd W B [exR7]) => (show Calls Tryz.prog 18 #[.agg #[.slice A 0 c, .slice B 1 d]] W (fun e w' => e = .returned (.bool true) ∧ Below W.heap.size W w') from by
    have h := prMay_calls A B 0 c 1 d [] [exR7] W rfl rfl hd hr (by simp) (by intro r hr; rw [List.mem_singleton.1 hr]; exact ex7_sz)
    rw [ex7_may] at h
    exact h))
  clear hE hW
  go_enter Tryz.func14, Tryz.ntmps14
  go_wp2_with (first
    | (go_at_call 20; ((with_reducible refine (HPA.out _ HE.out).mono ?_); rintro e w2 ⟨hb2, A, n, c, B, m, d, hn, hm, hn4, hm4, hnc, hmd, rfl, hd, hr⟩; (obtain rfl : m = 1 := hm); (obtain rfl : n = 0 := hn); obtain ⟨r, rfl, hrr⟩ := hr 0 exR7 rfl; have hbx := (Below.refl w2.heap.size w2).alloc (Nat.le_refl _) (.cells #[.slice A 0 c, .slice (some r) 1 d] 36); have hrx := hrr.below hbx; obtain ⟨⟨Aa, na, ca, k1, k2, x0, x1, htr⟩, Ba, ma, da, k3, k4, x2, hlr⟩ := hrx; have x0' := (show World.cell? _ r = some _ from x0); have x1' := (show World.cell? _ ⟨r.block, r.off + 1, none⟩ = some _ from x1); have x2' := (show World.cell? _ ⟨r.block, r.off + 2, none⟩ = some _ from x2); have HB2 := Lib.hid (hb2.trans (hbx.mono hb2.size)); have HD := Lib.hid (hd.below hbx); have HR := Lib.hid (hr.below hbx); have HW2 := Lib.hid ((HW.out.below hb2).below hbx); have HT := Lib.hid htr; have HL := Lib.hid hlr; have HK1 := Lib.hid k1; have HK3 := Lib.hid k3; have HP := Lib.hid (heap_alloc_new w2 (.cells #[.slice A 0 c, .slice (some r) 1 d] 36)); clear hb2 hd hr hrr hn4 hm4 hbx k1 k2 k3 k4 htr hlr))
    | (go_at_call 28; ((with_reducible refine (HRU.out _ _ _ _ _ _ _ HK1.out HK3.out HT.out HL.out HW2.out).mono ?_); rintro e w3 ⟨rfl, hb3⟩; have HB3 := Lib.hid (HB2.out.trans (hb3.mono HB2.out.size)); have HD3 := Lib.hid (HD.out.below hb3); have HR3 := Lib.hid (HR.out.below hb3); have HW3 := Lib.hid (HW2.out.below hb3); have HP3 := Lib.hid ((hb3.block w2.heap.size (by simp)).trans HP.out); have y0 := cell_of_row _ _ 0 _ _ _ HP3.out; have y1 := cell_of_row _ _ 1 _ _ _ HP3.out; clear hb3))
    | (go_at_call 16; ((with_reducible refine (HPR.out _ _ _ _ _ HD3.out HR3.out HW3.out).mono ?_); rintro e w4 ⟨rfl, hb4⟩; have HB4 := Lib.hid (HB3.out.trans (hb4.mono HB3.out.size)); have HD4 := Lib.hid (HD3.out.below hb4); have HR4 := Lib.hid (HR3.out.below hb4); have z0 := cell_below hb4 (cell_of_row _ _ 0 _ _ _ HP3.out); have z1 := cell_below hb4 (cell_of_row _ _ 1 _ _ _ HP3.out); clear hb4))
    | (go_at_call 18; ((with_reducible refine (HMY.out _ _ _ _ _ HD4.out HR4.out).mono ?_); rintro e w5 ⟨rfl, hb5⟩; have HB5 := Lib.hid (HB4.out.trans (hb5.mono HB4.out.size)); clear hb5)))
  go_ret
  exact ⟨rfl, HB5.out⟩
end Go.Proofs.YtminbdcabacfbaaGreatDoor.V

namespace Go.Proofs.YtminbdcabacfbaaGreatDoor.V
set_option linter.unusedVariables false
set_option linter.unusedSimpArgs false
open Go.RowKit

/-- A program that lies at two slices. -/
structure ProgAt (w : World) (A : Option Addr) (n c : Nat) (B : Option Addr) (m d : Nat) (ds : List DeclL) (rs : List RuleL) : Prop where
  hn : n = ds.length
  hm : m = rs.length
  hd : DeclsRd w A ds
  hr : RulesRd w B rs
theorem ProgAt.below {w w' : World} {A B : Option Addr} {n c m d : Nat} {ds : List DeclL} {rs : List RuleL} (h : ProgAt w A n c B m d ds rs) (hb : Below w.heap.size w w') : ProgAt w' A n c B m d ds rs := ⟨h.hn, h.hm, h.hd.below hb, h.hr.below hb⟩
theorem ProgOk.ruleOk {ds : List DeclL} {rs : List RuleL} (h : ProgOk ds rs) : ∀ r ∈ rs, RuleOk' r := fun r hr => by
  have h1 := h.w
  have h2 := sum_mem wR hr
  unfold wP at h1
  obtain ⟨l1, l2, l3⟩ := h.l r hr
  exact ruleOk_of (h.n.2 r hr) (by omega) l1 l2 l3
theorem ProgOk.ruleSz {ds : List DeclL} {rs : List RuleL} (h : ProgOk ds rs) : ∀ r ∈ rs, RuleSz r := fun r hr => by
  have h1 := h.w
  have h2 := sum_mem wR hr
  unfold wP at h1
  obtain ⟨l1, l2, l3⟩ := h.l r hr
  exact ruleSz_of (by omega) l1 l2 l3
theorem ProgOk.declSz {ds : List DeclL} {rs : List RuleL} (h : ProgOk ds rs) : ∀ d ∈ ds, DeclSz d := fun d hd => by
  have h1 := h.w
  have h2 : d.p.length + 30 ≤ (ds.map wD).sum := sum_mem wD hd
  unfold wP at h1
  unfold DeclSz
  omega
theorem p7Prog (A B : Option Addr) (n c m d : Nat) (ds : List DeclL) (rs : List RuleL) (w : World) (h : ProgAt w A n c B m d ds rs) (ok : ProgOk ds rs) (hw : TabW w) :
    Calls Tryz.prog 16 #[.agg #[.slice A n c, .slice B m d]] w fun e w' => e = .returned (.string (bs (prgT ds rs))) ∧ Below w.heap.size w w' :=
  prProg_calls A B n c m d ds rs w h.hn h.hm h.hd h.hr ok.n.1 ok.ruleOk (by have := lenT_prog ds rs ok.n; have := ok.w; omega) (by rw [h.hn]; have := ok.d; omega) (by rw [h.hm]; have := ok.r; omega) hw
theorem p7May (A B : Option Addr) (n c m d : Nat) (ds : List DeclL) (rs : List RuleL) (w : World) (h : ProgAt w A n c B m d ds rs) (ok : ProgOk ds rs) :
    Calls Tryz.prog 18 #[.agg #[.slice A n c, .slice B m d]] w fun e w' => e = .returned (.bool (mayP ds rs)) ∧ Below w.heap.size w w' :=
  prMay_calls A B n c m d ds rs w h.hn h.hm h.hd h.hr ok.declSz ok.ruleSz
theorem p7Same (A1 B1 A2 B2 : Option Addr) (n m c1 d1 c2 d2 : Nat) (ds : List DeclL) (rs : List RuleL) (w : World) (h1 : ProgAt w A1 n c1 B1 m d1 ds rs) (h2 : ProgAt w A2 n c2 B2 m d2 ds rs) (hm : mayP ds rs = true) :
    Calls Tryz.prog 21 #[.agg #[.slice A1 n c1, .slice B1 m d1], .agg #[.slice A2 n c2, .slice B2 m d2]] w fun e w' => e = .returned (.bool true) ∧ Below w.heap.size w w' := by
  obtain ⟨k1, k2, _, k4⟩ := mayP_parts hm
  refine same_calls7 ds rs A1 B1 A2 B2 n m c1 d1 c2 d2 w h1.hn h1.hm (by rw [h1.hn]; omega) (by rw [h1.hm]; omega) h1.hd h2.hd h1.hr h2.hr fun r hr => ?_
  obtain ⟨j1, j2, j3⟩ := mayR_parts (k4 r hr)
  have := (mayA_parts j1).2.1
  exact ⟨by omega, by omega, fun l hl => ⟨(mayL_parts (j3 l hl)).1.1, by have := mayL_len (j3 l hl); omega⟩⟩
/-- Parse, of a text that is a program. -/
theorem p7Parse {s : List UInt8} {ds : List DeclL} {rs : List RuleL} (w : World) (hp : parseL s = .ok (ds, rs)) (hs : s.length ≤ 140737488355328) (hE : ErrW w) :
    Calls Tryz.prog 20 #[.string (bs s)] w fun e w' => Below w.heap.size w w' ∧ ∃ A n c B m d, e = .returned (.tuple #[.agg #[.slice A n c, .slice B m d], .int .i64 0, .int .i64 0]) ∧ ProgAt w' A n c B m d ds rs := by
  refine (parse7_ok w hp hs hE).mono ?_
  rintro e w' ⟨hb, A, n, c, B, m, d, hn, hm, _, _, _, _, rfl, hd, hr⟩
  exact ⟨hb, A, n, c, B, m, d, rfl, hn, hm, hd, hr⟩
end Go.Proofs.YtminbdcabacfbaaGreatDoor.V

namespace Go.Proofs.YtminbdcabacfbaaGreatDoor.V
set_option linter.unusedVariables false
set_option linter.unusedSimpArgs false
open Go.RowKit

set_option maxRecDepth 100000 in
set_option maxHeartbeats 16000000 in
theorem few_calls (A B : Option Addr) (n c m d : Nat) (ds : List DeclL) (rs : List RuleL) (w : World) (h : ProgAt w A n c B m d ds rs) (hm2 : m < 1000000000) (hbl : ∀ r ∈ rs, r.b.length < 1000000000) :
    Calls Tryz.prog 15 #[.agg #[.slice A n c, .slice B m d]] w fun e w' => (∃ b, e = .returned (.bool b)) ∧ Below w.heap.size w w' := by
  have hb0 := (Below.refl w.heap.size w).alloc (Nat.le_refl _) (.cells #[.slice A n c, .slice B m d] 36)
  have hnw := heap_alloc_new w (.cells #[.slice A n c, .slice B m d] 36)
  have HB0 := Lib.hid hb0
  have HNW := Lib.hid hnw
  have HR := Lib.hid (h.hr.below hb0)
  have HM := Lib.hid h.hm
  have HBL := Lib.hid hbl
  have hw0g : ∃ w0, w.alloc (.cells #[.slice A n c, .slice B m d] 36) = w0 := ⟨_, rfl⟩
  clear hb0 hnw h hbl
  go_enter Tryz.func15, Tryz.ntmps15
  go_wp2_with fail
  obtain ⟨w0, hw0⟩ := hw0g
  rw [hw0] at HB0 HNW HR ⊢
  have HX := Lib.hid (show w.heap.size < w0.heap.size from (Array.getElem?_eq_some_iff.1 HNW.out).1)
  go_loopw [3] (fun i wr => ∃ k : Nat, k ≤ m ∧ i = .int .i64 (k : Int) ∧ Below w0.heap.size w0 wr) (fun i _ => m + 1 - (intOf i).toNat)
  case atStart => exact ⟨0, Nat.zero_le _, rfl, Below.refl _ _⟩
  case round =>
    obtain ⟨k, hk, rfl, hb⟩ := hrel
    have HB := Lib.hid hb
    have a0 := cell_below hb (cell_of_row _ _ 0 _ _ _ HNW.out)
    have a1 := cell_below hb (cell_of_row _ _ 1 _ _ _ HNW.out)
    by_cases hlt : k < m
    · have hd : decide ((k : Int) < (m : Int)) = true := decide_eq_true (by omega)
      by_cases h61 : k < 61
      · have hd2 : decide ((k : Int) < 61) = true := decide_eq_true (by omega)
        obtain ⟨t, hx⟩ : ∃ t, rs[k]? = some t := ⟨_, List.getElem?_eq_getElem (by rw [← HM.out]; exact hlt)⟩
        obtain ⟨a, rfl, hh⟩ := HR.out k t hx
        have hbt := HBL.out t (List.mem_of_getElem? hx)
        have hbx := (Below.refl wr.heap.size wr)
        obtain ⟨⟨Aa, na, ca, hna, hca, d0, d1, htr⟩, Bb, mb, cb, hnb, hcb, d2, hlr⟩ := hh.below hb
        have hbx := (Below.refl wr.heap.size wr).alloc (Nat.le_refl _) (.cells #[.string (bs t.h.p), .slice Aa na ca, .slice Bb mb cb] 50)
        have hnx := heap_alloc_new wr (.cells #[.string (bs t.h.p), .slice Aa na ca, .slice Bb mb cb] 50)
        have HBX := Lib.hid hbx
        have HNX := Lib.hid hnx
        have HL := Lib.hid (hlr.below hbx)
        have HNB := Lib.hid hnb
        have e1 := cell_of_row _ _ 1 _ _ _ hnx
        have e2 := cell_of_row _ _ 2 _ _ _ hnx
        have hmb : mb < 1000000000 := by omega
        clear hb hh hx hna hca htr hnb hcb hlr hbx hnx hbt
        by_cases hb20 : 20 < mb
        · have hd3 : decide (20 < (mb : Int)) = true := decide_eq_true (by omega)
          go_wp2_with fail
          go_ret
          exact ⟨⟨_, rfl⟩, HB0.out.trans ((HB.out.trans (HBX.out.mono HB.out.size)).mono HB0.out.size)⟩
        · have hd3 : decide (20 < (mb : Int)) = false := decide_eq_false (by omega)
          by_cases ha20 : 20 < na
          · have hd4 : decide (20 < (na : Int)) = true := decide_eq_true (by omega)
            go_wp2_with fail
            go_ret
            exact ⟨⟨_, rfl⟩, HB0.out.trans ((HB.out.trans (HBX.out.mono HB.out.size)).mono HB0.out.size)⟩
          · have hd4 : decide (20 < (na : Int)) = false := decide_eq_false (by omega)
            have hvg : ∃ v0, wr.alloc (.cells #[.string (bs t.h.p), .slice Aa na ca, .slice Bb mb cb] 50) = v0 := ⟨_, rfl⟩
            go_wp2_with fail
            obtain ⟨v0, hv0⟩ := hvg
            rw [hv0] at HBX HNX HL ⊢
            have HV := Lib.hid (HB.out.trans (HBX.out.mono HB.out.size))
            clear a0 a1 d0 d1 d2 e1 e2 hv0
            go_loopw [5] (fun i wq => ∃ j : Nat, j ≤ mb ∧ i = .int .i64 (j : Int) ∧ Below v0.heap.size v0 wq) (fun i _ => mb + 1 - (intOf i).toNat)
            case atStart => exact ⟨0, Nat.zero_le _, rfl, Below.refl _ _⟩
            case round =>
              obtain ⟨j, hj, rfl, hb⟩ := hrel
              have HQ := Lib.hid hb
              have f2 := cell_below hb (cell_of_row _ _ 2 _ _ _ HNX.out)
              by_cases hjlt : j < mb
              · have hdj : decide ((j : Int) < (mb : Int)) = true := decide_eq_true (by omega)
                obtain ⟨l, hx⟩ : ∃ l, t.b[j]? = some l := ⟨_, List.getElem?_eq_getElem (by rw [← HNB.out]; exact hjlt)⟩
                obtain ⟨b, rfl, hh⟩ := HL.out j l hx
                obtain ⟨kk, Ab, nb, cbb, _, _, _, _, x0, x1, x2, _⟩ := (hh.below hb).open
                clear hb hh hx
                by_cases hn20 : 20 < nb
                · have hd5 : decide (20 < (nb : Int)) = true := decide_eq_true (by omega)
                  go_wp2_with fail
                  go_ret
                  exact ⟨⟨_, rfl⟩, HB0.out.trans ((HV.out.trans (HQ.out.mono HV.out.size)).mono HB0.out.size)⟩
                · have hd5 : decide (20 < (nb : Int)) = false := decide_eq_false (by omega)
                  go_wp2_with fail
                  go_roundw
                  case rel => exact ⟨j + 1, hjlt, by simp, HQ.out⟩
                  case measure => simp [intOf]; omega
              · have hjn : mb = j := by omega
                subst hjn
                have hdj : decide ((mb : Int) < (mb : Int)) = false := decide_eq_false (by omega)
                clear hb hjlt hj
                go_wp2_with fail
                go_roundw
                case rel => exact ⟨k + 1, hlt, by simp, HV.out.trans (HQ.out.mono HV.out.size)⟩
                case measure => simp [intOf]; omega
      · have hd2 : decide ((k : Int) < 61) = false := decide_eq_false (by omega)
        have hm60 : decide ((m : Int) ≤ 60) = false := decide_eq_false (by omega)
        clear hb
        go_wp2_with fail
        go_ret
        exact ⟨⟨_, rfl⟩, HB0.out.trans (HB.out.mono HB0.out.size)⟩
    · have hkn : m = k := by omega
      subst hkn
      have hd : decide ((m : Int) < (m : Int)) = false := decide_eq_false (by omega)
      clear hb hlt hk
      by_cases hm60 : m ≤ 60
      · have hd2 : decide ((m : Int) ≤ 60) = true := decide_eq_true (by omega)
        go_wp2_with fail
        go_ret
        exact ⟨⟨_, rfl⟩, HB0.out.trans (HB.out.mono HB0.out.size)⟩
      · have hd2 : decide ((m : Int) ≤ 60) = false := decide_eq_false (by omega)
        go_wp2_with fail
        go_ret
        exact ⟨⟨_, rfl⟩, HB0.out.trans (HB.out.mono HB0.out.size)⟩
end Go.Proofs.YtminbdcabacfbaaGreatDoor.V

namespace Go.Proofs.YtminbdcabacfbaaGreatDoor.V
set_option linter.unusedVariables false
set_option linter.unusedSimpArgs false
open Go.RowKit

theorem fitP_n {ds : List DeclL} {rs : List RuleL} (h : nP ds rs) (hw : ∀ r ∈ rs, True) : fitP rs := fun r hr => by
  have h1 : ∀ t : TermL, nOk t.n → fitT t := fun t ht => by
    unfold nOk at ht
    unfold fitT
    omega
  exact ⟨fun t ht => h1 t ((h.2 r hr).1 t ht), fun l hl => ⟨fun t ht => h1 t (((h.2 r hr).2 l hl).1 t ht), h1 _ ((h.2 r hr).2 l hl).2.1, h1 _ ((h.2 r hr).2 l hl).2.2⟩⟩

set_option maxRecDepth 100000 in
set_option maxHeartbeats 16000000 in
theorem back_calls (A : Option Addr) (n c : Nat) (B : Option Addr) (m d : Nat) (ds : List DeclL) (rs : List RuleL) (w : World) (h : ProgAt w A n c B m d ds rs) (ok : ProgOk ds rs) (hE : ErrW w) (hW : TabW w) :
    Calls Tryz.prog 5 #[.agg #[.slice A n c, .slice B m d]] w fun e w' => e = .returned (.bool true) ∧ Below w.heap.size w w' := by
  have hb0 := (Below.refl w.heap.size w).alloc (Nat.le_refl _) (.cells #[.slice A n c, .slice B m d] 36)
  have hnw := heap_alloc_new w (.cells #[.slice A n c, .slice B m d] 36)
  have HB0 := Lib.hid hb0
  have HNW := Lib.hid hnw
  have HE := Lib.hid (hE.below hb0)
  have HW := Lib.hid (hW.below hb0)
  have HP := Lib.hid (h.below hb0)
  have hmb : m < 1000000000 := by rw [h.hm]; exact ok.r
  have HFW := Lib.hid (fun (W : World) (h : ProgAt W A n c B m d ds rs) => few_calls A B n c m d ds rs W h hmb (fun r hr => (ok.l r hr).2.1))
  have HMY := Lib.hid (fun (W : World) (h : ProgAt W A n c B m d ds rs) => p7May A B n c m d ds rs W h ok)
  have hlt : w.heap.size < (w.alloc (.cells #[.slice A n c, .slice B m d] 36)).heap.size := by simp
  have HLT := Lib.hid hlt
  clear hb0 hnw hE hW hlt
  cases hmay : mayP ds rs with
  | false =>
    have HMAY := Lib.hid hmay
    clear hmay ok h
    go_enter Tryz.func5, Tryz.ntmps5
    go_wp2_with (first
      | (go_at_call 14; ((with_reducible refine (shown7_calls _ HE.out HW.out).mono ?_); rintro e w1 ⟨rfl, hb1⟩; have HB1 := Lib.hid (HB0.out.trans (hb1.mono HB0.out.size)); have HP1 := Lib.hid (HP.out.below hb1); have HN1 := Lib.hid ((hb1.block w.heap.size HLT.out).trans HNW.out); have p0 := cell_of_row _ _ 0 _ _ _ HN1.out; have p1 := cell_of_row _ _ 1 _ _ _ HN1.out; clear hb1))
      | (go_at_call 15; ((with_reducible refine (HFW.out _ HP1.out).mono ?_); rintro e w2 ⟨⟨b, rfl⟩, hb2⟩; have HB2 := Lib.hid (HB1.out.trans (hb2.mono HB1.out.size)); have HP2 := Lib.hid (HP1.out.below hb2); have HN2 := Lib.hid ((hb2.block w.heap.size (Array.getElem?_eq_some_iff.1 HN1.out).1).trans HN1.out); have q0 := cell_of_row _ _ 0 _ _ _ HN2.out; have q1 := cell_of_row _ _ 1 _ _ _ HN2.out; clear hb2))
      | (go_at_call 18; ((with_reducible refine (HMY.out _ HP2.out).mono ?_); rw [HMAY.out]; rintro e w3 ⟨rfl, hb3⟩; have HB3 := Lib.hid (HB2.out.trans (hb3.mono HB2.out.size)); clear hb3)))
    all_goals
      go_ret
      first
        | exact ⟨rfl, HB3.out⟩
        | exact ⟨rfl, HB2.out⟩
  | true =>
    have HMAY := Lib.hid hmay
    obtain ⟨t, ht⟩ : ∃ t, prgT ds rs = t := ⟨_, rfl⟩
    have HPR := Lib.hid (fun (W : World) (h : ProgAt W A n c B m d ds rs) (hw : TabW W) => (show Calls Tryz.prog 16 #[.agg #[.slice A n c, .slice B m d]] W (fun e w' => e = .returned (.string (bs t)) ∧ Below W.heap.size W w') from by rw [← ht]; exact p7Prog A B n c m d ds rs W h ok hw))
    by_cases hlong : 60000 < t.length
    · have hd : decide (60000 < ((bs t).size : Int)) = true := decide_eq_true (by rw [bs_size]; omega)
      clear hmay ok h ht hlong
      go_enter Tryz.func5, Tryz.ntmps5
      go_wp2_with (first
        | (go_at_call 14; ((with_reducible refine (shown7_calls _ HE.out HW.out).mono ?_); rintro e w1 ⟨rfl, hb1⟩; have HB1 := Lib.hid (HB0.out.trans (hb1.mono HB0.out.size)); have HP1 := Lib.hid (HP.out.below hb1); have HE1 := Lib.hid (HE.out.below hb1); have HW1 := Lib.hid (HW.out.below hb1); have HN1 := Lib.hid ((hb1.block w.heap.size HLT.out).trans HNW.out); have p0 := cell_of_row _ _ 0 _ _ _ HN1.out; have p1 := cell_of_row _ _ 1 _ _ _ HN1.out; clear hb1))
        | (go_at_call 15; ((with_reducible refine (HFW.out _ HP1.out).mono ?_); rintro e w2 ⟨⟨b, rfl⟩, hb2⟩; have HB2 := Lib.hid (HB1.out.trans (hb2.mono HB1.out.size)); have HP2 := Lib.hid (HP1.out.below hb2); have HE2 := Lib.hid (HE1.out.below hb2); have HW2 := Lib.hid (HW1.out.below hb2); have HN2 := Lib.hid ((hb2.block w.heap.size (Array.getElem?_eq_some_iff.1 HN1.out).1).trans HN1.out); have q0 := cell_of_row _ _ 0 _ _ _ HN2.out; have q1 := cell_of_row _ _ 1 _ _ _ HN2.out; clear hb2))
        | (go_at_call 18; ((with_reducible refine (HMY.out _ HP2.out).mono ?_); rw [HMAY.out]; rintro e w3 ⟨rfl, hb3⟩; have HB3 := Lib.hid (HB2.out.trans (hb3.mono HB2.out.size)); have HP3 := Lib.hid (HP2.out.below hb3); have HE3 := Lib.hid (HE2.out.below hb3); have HW3 := Lib.hid (HW2.out.below hb3); have HN3 := Lib.hid ((hb3.block w.heap.size (Array.getElem?_eq_some_iff.1 HN2.out).1).trans HN2.out); have r0 := cell_of_row _ _ 0 _ _ _ HN3.out; have r1 := cell_of_row _ _ 1 _ _ _ HN3.out; clear hb3))
        | (go_at_call 16; ((with_reducible refine (HPR.out _ HP3.out HW3.out).mono ?_); rintro e w4 ⟨rfl, hb4⟩; have HB4 := Lib.hid (HB3.out.trans (hb4.mono HB3.out.size)); have HP4 := Lib.hid (HP3.out.below hb4); have HE4 := Lib.hid (HE3.out.below hb4); have HN4 := Lib.hid ((hb4.block w.heap.size (Array.getElem?_eq_some_iff.1 HN3.out).1).trans HN3.out); clear hb4)))
      all_goals
        go_ret
        first
          | exact ⟨rfl, HB4.out⟩
          | exact ⟨rfl, HB2.out⟩
    · have hd : decide (60000 < ((bs t).size : Int)) = false := decide_eq_false (by rw [bs_size]; omega)
      have hpt : parseL t = .ok (ds, rs) := by rw [← ht]; exact print_parse hmay (fitP_n ok.n fun _ _ => trivial) (by rw [ht]; omega)
      have HPT := Lib.hid (fun (W : World) (h : ErrW W) => (show Calls Tryz.prog 20 #[.string (bs t)] W (fun e w' => Below W.heap.size W w' ∧ ∃ A n c B m d, e = .returned (.tuple #[.agg #[.slice A n c, .slice B m d], .int .i64 0, .int .i64 0]) ∧ ProgAt w' A n c B m d ds rs) from p7Parse W hpt (by omega) h))
      have HSM := Lib.hid (fun (A1 B1 A2 B2 : Option Addr) (n m c1 d1 c2 d2 : Nat) (W : World) (h1 : ProgAt W A1 n c1 B1 m d1 ds rs) (h2 : ProgAt W A2 n c2 B2 m d2 ds rs) => p7Same A1 B1 A2 B2 n m c1 d1 c2 d2 ds rs W h1 h2 hmay)
      clear hmay ok h ht hlong hpt
      go_enter Tryz.func5, Tryz.ntmps5
      go_wp2_with (first
        | (go_at_call 14; ((with_reducible refine (shown7_calls _ HE.out HW.out).mono ?_); rintro e w1 ⟨rfl, hb1⟩; have HB1 := Lib.hid (HB0.out.trans (hb1.mono HB0.out.size)); have HP1 := Lib.hid (HP.out.below hb1); have HE1 := Lib.hid (HE.out.below hb1); have HW1 := Lib.hid (HW.out.below hb1); have HN1 := Lib.hid ((hb1.block w.heap.size HLT.out).trans HNW.out); have p0 := cell_of_row _ _ 0 _ _ _ HN1.out; have p1 := cell_of_row _ _ 1 _ _ _ HN1.out; clear hb1))
        | (go_at_call 15; ((with_reducible refine (HFW.out _ HP1.out).mono ?_); rintro e w2 ⟨⟨b, rfl⟩, hb2⟩; have HB2 := Lib.hid (HB1.out.trans (hb2.mono HB1.out.size)); have HP2 := Lib.hid (HP1.out.below hb2); have HE2 := Lib.hid (HE1.out.below hb2); have HW2 := Lib.hid (HW1.out.below hb2); have HN2 := Lib.hid ((hb2.block w.heap.size (Array.getElem?_eq_some_iff.1 HN1.out).1).trans HN1.out); have q0 := cell_of_row _ _ 0 _ _ _ HN2.out; have q1 := cell_of_row _ _ 1 _ _ _ HN2.out; clear hb2))
        | (go_at_call 18; ((with_reducible refine (HMY.out _ HP2.out).mono ?_); rw [HMAY.out]; rintro e w3 ⟨rfl, hb3⟩; have HB3 := Lib.hid (HB2.out.trans (hb3.mono HB2.out.size)); have HP3 := Lib.hid (HP2.out.below hb3); have HE3 := Lib.hid (HE2.out.below hb3); have HW3 := Lib.hid (HW2.out.below hb3); have HN3 := Lib.hid ((hb3.block w.heap.size (Array.getElem?_eq_some_iff.1 HN2.out).1).trans HN2.out); have r0 := cell_of_row _ _ 0 _ _ _ HN3.out; have r1 := cell_of_row _ _ 1 _ _ _ HN3.out; clear hb3))
        | (go_at_call 16; ((with_reducible refine (HPR.out _ HP3.out HW3.out).mono ?_); rintro e w4 ⟨rfl, hb4⟩; have HB4 := Lib.hid (HB3.out.trans (hb4.mono HB3.out.size)); have HP4 := Lib.hid (HP3.out.below hb4); have HE4 := Lib.hid (HE3.out.below hb4); have HN4 := Lib.hid ((hb4.block w.heap.size (Array.getElem?_eq_some_iff.1 HN3.out).1).trans HN3.out); clear hb4))
        | (go_at_call 20; ((with_reducible refine (HPT.out _ HE4.out).mono ?_); rintro e w5 ⟨hb5, A5, n5, c5, B5, m5, d5, rfl, hpb⟩; (obtain rfl : n5 = n := by rw [hpb.hn, HP4.out.hn]); (obtain rfl : m5 = m := by rw [hpb.hm, HP4.out.hm]); have hbx := (Below.refl w5.heap.size w5).alloc (Nat.le_refl _) (.cells #[.slice A5 n5 c5, .slice B5 m5 d5] 36); have HB5 := Lib.hid (HB4.out.trans ((hb5.trans (hbx.mono hb5.size)).mono HB4.out.size)); have HP5 := Lib.hid ((HP4.out.below hb5).below hbx); have HQ5 := Lib.hid (hpb.below hbx); have HN5 := Lib.hid ((hbx.block w.heap.size (Nat.lt_of_lt_of_le (Array.getElem?_eq_some_iff.1 HN4.out).1 hb5.size)).trans ((hb5.block w.heap.size (Array.getElem?_eq_some_iff.1 HN4.out).1).trans HN4.out)); have HY5 := Lib.hid (heap_alloc_new w5 (.cells #[.slice A5 n5 c5, .slice B5 m5 d5] 36)); have u0 := cell_of_row _ _ 0 _ _ _ HN5.out; have u1 := cell_of_row _ _ 1 _ _ _ HN5.out; clear hb5 hbx hpb))
        | (go_at_call 21; ((with_reducible refine (HSM.out _ _ _ _ _ _ _ _ _ _ _ HP5.out HQ5.out).mono ?_); rintro e w6 ⟨rfl, hb6⟩; have HB6 := Lib.hid (HB5.out.trans (hb6.mono HB5.out.size)); clear hb6)))
      all_goals
        go_ret
        first
          | exact ⟨rfl, HB6.out⟩
          | exact ⟨rfl, HB2.out⟩
end Go.Proofs.YtminbdcabacfbaaGreatDoor.V

namespace Go.Proofs.YtminbdcabacfbaaGreatDoor.V
set_option linter.unusedSimpArgs false
set_option linter.unusedVariables false
open Go.ChangeShapes Go.WideShapes Go.ChangeAt Go.RowKit
set_option maxRecDepth 100000

section
variable {H : Type} {enc : TypeId × Value → H} {W : World} {base : Nat} {sp : Nat → Bool} {held : Bool} {fuel : Nat}
theorem bulk_mem {e : DataW H} : ∀ {l : List (DataW H)}, e ∈ l → Rows.uptoBulk e ≤ Rows.uptoBulkAll l
  | [], h => by cases h
  | x :: r, h => by
    simp only [Rows.uptoBulkAll]
    rcases List.mem_cons.1 h with rfl | h
    · omega
    · have := bulk_mem h
      omega
theorem pick_list {α : Type} {Q : Nat → α → Prop} : ∀ n : Nat, (∀ i, i < n → ∃ a, Q i a) → ∃ xs : List α, xs.length = n ∧ ∀ i a, xs[i]? = some a → Q i a
  | 0, _ => ⟨[], rfl, fun i a h => by simp at h⟩
  | n + 1, h => by
    obtain ⟨xs, hl, hx⟩ := pick_list n (fun i hi => h i (by omega))
    obtain ⟨a, ha⟩ := h n (by omega)
    refine ⟨xs ++ [a], by simp [hl], fun i b hb => ?_⟩
    rcases Nat.lt_or_ge i n with hi | hi
    · rw [List.getElem?_append_left (by omega)] at hb
      exact hx i b hb
    · have hi' : i = n := by
        have := (List.getElem?_eq_some_iff.1 hb).1
        simp [hl] at this
        omega
      subst hi'
      rw [← hl] at hb
      have hb' : a = b := by simpa using hb
      subst hb'
      exact ha
theorem range_bulk {α : Type} (w : α → Nat) (D : Nat → DataW H) : ∀ (L : List α) (k : Nat), (∀ i a, L[i]? = some a → w a ≤ 26 * Rows.uptoBulk (D (k + i))) → (L.map w).sum ≤ 26 * Rows.uptoBulkAll ((List.range' k L.length).map D)
  | [], k, _ => by simp
  | a :: r, k, h => by
    have h0 := h 0 a rfl
    have h1 := range_bulk w D r (k + 1) fun i b hb => by
      have := h (i + 1) b (by simpa using hb)
      rw [show k + 1 + i = k + (i + 1) by omega]
      exact this
    rw [List.map_cons, List.sum_cons, List.length_cons, List.range'_succ, List.map_cons, Rows.uptoBulkAll]
    rw [Nat.add_zero] at h0
    omega
/-- What lies in a list's cells, thing by thing. -/
theorem trod_list {α : Type} {t e : TypeId} {sz : Nat} {cs : List Value} {x : DataW H × List MemPlace} (Q : α → List Value → Prop) (w : α → Nat) (ht : Tryz.prog.underlying t = some (.slice e)) (hsz : Tryz.prog.cellsOf e = sz)
    (hone : ∀ (fuel : Nat) (cs' : List Value) (x' : DataW H × List MemPlace), DataW.trod enc Tryz.prog W base sp held fuel e cs' = some x' → ∃ a, Q a cs' ∧ w a ≤ 26 * Rows.uptoBulk x'.1)
    (h : DataW.trod enc Tryz.prog W base sp held fuel t cs = some x) :
    ∃ (A : Option Addr) (n c : Nat) (L : List α), cs = [.slice A n c] ∧ n = L.length ∧ n ≤ c ∧ (∀ j a, L[j]? = some a → ∃ ad cs', A = some ad ∧ Q a cs' ∧ cs'.length = sz ∧ (∀ u, cs'[0]? = some u → W.cell? (ad.add (j * sz)) = some u) ∧ ∀ i u, 0 < i → cs'[i]? = some u → W.cell? ⟨(ad.add (j * sz)).block, (ad.add (j * sz)).off + i, none⟩ = some u) ∧ (L.map w).sum + 26 ≤ 26 * Rows.uptoBulk x.1 := by
  rcases Go.Deep.open_slice ht h with ⟨rfl, rfl⟩ | ⟨a, len, cap, m, n, D, Pl, rfl, hb, hl, hm, hmm, rfl, hx⟩
  · exact ⟨none, 0, 0, [], rfl, rfl, Nat.le_refl _, fun j a h => by simp at h, by simp [Rows.uptoBulk]⟩
  · have hlm : len ≤ m := by
      rw [hmm]
      split <;> omega
    rw [hsz] at hx
    obtain ⟨L, hL, hLs⟩ := pick_list (Q := fun i (b : α) => (∃ cs', Q b cs' ∧ cs'.length = sz ∧ ∀ k, k < sz → W.cell? ((a.add (i * sz)).add k) = cs'[k]?) ∧ w b ≤ 26 * Rows.uptoBulk (D i)) len (fun i hi => by
      obtain ⟨cs', k1, k2⟩ := hx i (by omega)
      obtain ⟨b, hb1, hb2⟩ := hone n cs' _ k2
      obtain ⟨_, g2, g3⟩ := World.cells?_some k1
      exact ⟨b, ⟨cs', hb1, g2, g3⟩, hb2⟩)
    refine ⟨some a, len, cap, L, rfl, hL.symm, hl, fun j b hj => ?_, ?_⟩
    · obtain ⟨⟨cs', q1, q2, q3⟩, _⟩ := hLs j b hj
      refine ⟨a, cs', rfl, q1, q2, fun u hu => ?_, fun i u hi hu => ?_⟩
      · have hlt := (List.getElem?_eq_some_iff.1 hu).1
        exact (q3 0 (by omega)).trans hu
      · have hlt := (List.getElem?_eq_some_iff.1 hu).1
        have := (q3 i (by omega)).trans hu
        rw [show (a.add (j * sz)).add i = if i = 0 then a.add (j * sz) else { a.add (j * sz) with off := (a.add (j * sz)).off + i, spot := none } from rfl, if_neg (by omega)] at this
        exact this
    · have h1 := range_bulk w D L 0 fun i b hb => by
        rw [Nat.zero_add]
        exact (hLs i b hb).2
      rw [hL, ← List.range_eq_range'] at h1
      simp only [Rows.uptoBulk]
      omega
theorem lit_ok64 {n : Int} (h : (Lit.int .i64 n).wf = true) : nOk n := by
  simp only [Lit.wf, Bool.and_eq_true, decide_eq_true_eq] at h
  have h0 : IntKind.i64.min = -9223372036854775808 := rfl
  have h1 : IntKind.i64.max = 9223372036854775807 := rfl
  unfold nOk
  omega
theorem bs_of (s : ByteArray) : bs s.data.toList = s := of_bytes s
/-- Pieces in line are the whole. -/
theorem drop_split {cs : List Value} {k m : Nat} {a : List Value} (h : (cs.drop k).take m = a) (ha : a.length = m) : cs.drop k = a ++ cs.drop (k + m) := by
  rw [← List.take_append_drop m (cs.drop k), h, List.drop_drop]
theorem drop_all {cs : List Value} {n : Nat} (h : cs.length = n) : cs.drop n = [] := List.drop_eq_nil_of_le (by omega)
theorem trod_val {cs : List Value} {x : DataW H × List MemPlace} (h : DataW.trod enc Tryz.prog W base sp held fuel 43 cs = some x) :
    ∃ (s : Bool) (y : List UInt8) (n : Int), cs = [.bool s, .string (bs y), .int .i64 n] ∧ nOk n ∧ y.length + 4 ≤ Rows.uptoBulk x.1 := by
  obtain ⟨xs, n, _, rfl, hl, hlen, hf⟩ := DataW.trod_struct (Tryz.underlying43) h
  match xs, hlen with
  | [y0, y1, y2], _ =>
    obtain ⟨k, e0, g0⟩ := DataW.trod_bool (Tryz.underlying4) (show _ = some y0 from hf 0 _ rfl)
    obtain ⟨s, e1, g1, hs⟩ := DataW.trod_string (Tryz.underlying9) (show _ = some y1 from hf 1 _ rfl)
    obtain ⟨m, e2, g2, hm⟩ := DataW.trod_int (Tryz.underlying2) (show _ = some y2 from hf 2 _ rfl)
    refine ⟨k, s.data.toList, m, ?_, lit_ok64 hm, ?_⟩
    · have s0 := drop_split (k := 0) (m := 1) (by exact e0) rfl
      have s1 := drop_split (k := 1) (m := 1) (by exact e1) rfl
      have s2 := drop_split (k := 2) (m := 1) (by exact e2) rfl
      rw [drop_all (n := 3) (hl.trans (by kernel_rfl))] at s2
      rw [List.drop_zero] at s0
      rw [s0, s1, s2, bs_of]
      rfl
    · simp only [List.map_cons, List.map_nil, Rows.uptoBulk, Rows.uptoBulkAll]
      rw [g0, g1, g2]
      simp only [Rows.uptoBulk]
      omega
theorem trod_term {cs : List Value} {x : DataW H × List MemPlace} (h : DataW.trod enc Tryz.prog W base sp held fuel 45 cs = some x) :
    ∃ t : TermL, (cs = termC t ∧ nOk t.n) ∧ wT t ≤ 26 * Rows.uptoBulk x.1 := by
  obtain ⟨xs, n, _, rfl, hl, hlen, hf⟩ := DataW.trod_struct (Tryz.underlying45) h
  match xs, hlen with
  | [y0, y1, y2], _ =>
    obtain ⟨k, e0, g0⟩ := DataW.trod_bool (Tryz.underlying4) (show _ = some y0 from hf 0 _ rfl)
    obtain ⟨s, e1, g1, hs⟩ := DataW.trod_string (Tryz.underlying9) (show _ = some y1 from hf 1 _ rfl)
    obtain ⟨vs, vy, vn, e2, hn, hb⟩ := trod_val (show _ = some y2 from hf 2 _ rfl)
    refine ⟨⟨k, s.data.toList, vs, vy, vn⟩, ⟨?_, hn⟩, ?_⟩
    · have s0 := drop_split (k := 0) (m := 1) (by exact e0) rfl
      have s1 := drop_split (k := 1) (m := 1) (by exact e1) rfl
      have s2 := drop_split (k := 2) (m := 3) (by exact e2) rfl
      rw [drop_all (n := 5) (hl.trans (by kernel_rfl))] at s2
      rw [List.drop_zero] at s0
      rw [s0, s1, s2]
      simp only [termC, bs_of]
      rfl
    · simp only [List.map_cons, List.map_nil, Rows.uptoBulk, Rows.uptoBulkAll]
      rw [g0, g1]
      simp only [Rows.uptoBulk, wT]
      omega
theorem trod_terms {cs : List Value} {x : DataW H × List MemPlace} (h : DataW.trod enc Tryz.prog W base sp held fuel 23 cs = some x) :
    ∃ (A : Option Addr) (n c : Nat) (L : List TermL), cs = [.slice A n c] ∧ n = L.length ∧ n ≤ c ∧ TermsRd W A L ∧ (∀ t ∈ L, nOk t.n) ∧ (L.map wT).sum + 26 ≤ 26 * Rows.uptoBulk x.1 := by
  obtain ⟨A, n, c, L, h1, h2, h3, h4, h5⟩ := trod_list (fun (t : TermL) cs' => cs' = termC t ∧ nOk t.n) wT (Tryz.underlying23) (by kernel_rfl) (fun f cs' x' hh => trod_term hh) h
  refine ⟨A, n, c, L, h1, h2, h3, fun j t hj => ?_, fun t ht => ?_, h5⟩
  · obtain ⟨ad, cs', rfl, ⟨rfl, _⟩, _, q0, q⟩ := h4 j t hj
    exact ⟨ad, rfl, q0 _ rfl, q 1 _ (by omega) rfl, q 2 _ (by omega) rfl, q 3 _ (by omega) rfl, q 4 _ (by omega) rfl⟩
  · obtain ⟨j, hj⟩ := List.getElem?_of_mem ht
    obtain ⟨_, _, _, ⟨_, hn⟩, _⟩ := h4 j t hj
    exact hn
/-- An atom's cells. -/
theorem trod_atom {cs : List Value} {x : DataW H × List MemPlace} (h : DataW.trod enc Tryz.prog W base sp held fuel 25 cs = some x) :
    ∃ (a : AtomL) (A : Option Addr) (n c : Nat), cs = [.string (bs a.p), .slice A n c] ∧ n = a.a.length ∧ n ≤ c ∧ TermsRd W A a.a ∧ nA a ∧ wA a ≤ 26 * Rows.uptoBulk x.1 := by
  obtain ⟨xs, n, _, rfl, hl, hlen, hf⟩ := DataW.trod_struct (Tryz.underlying25) h
  match xs, hlen with
  | [y0, y1], _ =>
    obtain ⟨s, e0, g0, hs⟩ := DataW.trod_string (Tryz.underlying9) (show _ = some y0 from hf 0 _ rfl)
    obtain ⟨A, n', c, L, e1, h2, h3, h4, h5, h6⟩ := trod_terms (show _ = some y1 from hf 1 _ rfl)
    refine ⟨⟨s.data.toList, L⟩, A, n', c, ?_, h2, h3, h4, h5, ?_⟩
    · have s0 := drop_split (k := 0) (m := 1) (by exact e0) rfl
      have s1 := drop_split (k := 1) (m := 1) (by exact e1) rfl
      rw [drop_all (n := 2) (hl.trans (by kernel_rfl))] at s1
      rw [List.drop_zero] at s0
      rw [s0, s1, bs_of]
      rfl
    · simp only [List.map_cons, List.map_nil, Rows.uptoBulk, Rows.uptoBulkAll]
      rw [g0]
      simp only [Rows.uptoBulk, wA]
      omega
/-- A literal's cells, wherever its atom's terms lie. -/
def LitCs (W : World) (l : LitL) (cs : List Value) : Prop := ∃ (kk : Int) (A : Option Addr) (n c : Nat), kk.toNat = l.k ∧ n = l.a.a.length ∧ n ≤ c ∧ TermsRd W A l.a.a ∧ cs = [.int .i64 kk, .string (bs l.a.p), .slice A n c, .string (bs l.o), .bool l.l.v, .string (bs l.l.x), .bool l.l.s, .string (bs l.l.t), .int .i64 l.l.n, .bool l.r.v, .string (bs l.r.x), .bool l.r.s, .string (bs l.r.t), .int .i64 l.r.n]
theorem trod_lit {cs : List Value} {x : DataW H × List MemPlace} (h : DataW.trod enc Tryz.prog W base sp held fuel 47 cs = some x) :
    ∃ l : LitL, (LitCs W l cs ∧ nL l) ∧ wL l ≤ 26 * Rows.uptoBulk x.1 := by
  obtain ⟨xs, n, _, rfl, hl, hlen, hf⟩ := DataW.trod_struct (Tryz.underlying47) h
  match xs, hlen with
  | [y0, y1, y2, y3, y4], _ =>
    obtain ⟨kk, e0, g0, _⟩ := DataW.trod_int (Tryz.underlying3) (show _ = some y0 from hf 0 _ rfl)
    obtain ⟨a, A, n', c, e1, h2, h3, h4, h5, h6⟩ := trod_atom (show _ = some y1 from hf 1 _ rfl)
    obtain ⟨s, e2, g2, hs⟩ := DataW.trod_string (Tryz.underlying9) (show _ = some y2 from hf 2 _ rfl)
    obtain ⟨tl, ⟨e3, n3⟩, w3⟩ := trod_term (show _ = some y3 from hf 3 _ rfl)
    obtain ⟨tr, ⟨e4, n4⟩, w4⟩ := trod_term (show _ = some y4 from hf 4 _ rfl)
    refine ⟨⟨kk.toNat, a, s.data.toList, tl, tr⟩, ⟨⟨kk, A, n', c, rfl, h2, h3, h4, ?_⟩, h5, n3, n4⟩, ?_⟩
    · have s0 := drop_split (k := 0) (m := 1) (by exact e0) rfl
      have s1 := drop_split (k := 1) (m := 2) (by exact e1) rfl
      have s2 := drop_split (k := 3) (m := 1) (by exact e2) rfl
      have s3 := drop_split (k := 4) (m := 5) (by exact e3) rfl
      have s4 := drop_split (k := 9) (m := 5) (by exact e4) rfl
      rw [drop_all (n := 14) (hl.trans (by kernel_rfl))] at s4
      rw [List.drop_zero] at s0
      rw [s0, s1, s2, s3, s4, bs_of]
      rfl
    · simp only [List.map_cons, List.map_nil, Rows.uptoBulk, Rows.uptoBulkAll]
      rw [g0, g2]
      simp only [Rows.uptoBulk, wL]
      omega
theorem trod_lits {cs : List Value} {x : DataW H × List MemPlace} (h : DataW.trod enc Tryz.prog W base sp held fuel 48 cs = some x) :
    ∃ (A : Option Addr) (n c : Nat) (L : List LitL), cs = [.slice A n c] ∧ n = L.length ∧ n ≤ c ∧ LitsRd W A L ∧ (∀ t ∈ L, nL t) ∧ (L.map wL).sum + 26 ≤ 26 * Rows.uptoBulk x.1 := by
  obtain ⟨A, n, c, L, h1, h2, h3, h4, h5⟩ := trod_list (fun (t : LitL) cs' => LitCs W t cs' ∧ nL t) wL (Tryz.underlying48) (by kernel_rfl) (fun f cs' x' hh => trod_lit hh) h
  refine ⟨A, n, c, L, h1, h2, h3, fun j t hj => ?_, fun t ht => ?_, h5⟩
  · obtain ⟨ad, cs', rfl, ⟨⟨kk, Aa, na, ca, k1, k2, k3, k4, rfl⟩, _⟩, _, q0, q⟩ := h4 j t hj
    exact ⟨ad, rfl, ⟨kk, q0 _ rfl, k1⟩, ⟨Aa, na, ca, k2, k3, q 1 _ (by omega) rfl, q 2 _ (by omega) rfl, k4⟩, q 3 _ (by omega) rfl, ⟨q 4 _ (by omega) rfl, q 5 _ (by omega) rfl, q 6 _ (by omega) rfl, q 7 _ (by omega) rfl, q 8 _ (by omega) rfl⟩, ⟨q 9 _ (by omega) rfl, q 10 _ (by omega) rfl, q 11 _ (by omega) rfl, q 12 _ (by omega) rfl, q 13 _ (by omega) rfl⟩⟩
  · obtain ⟨j, hj⟩ := List.getElem?_of_mem ht
    obtain ⟨_, _, _, ⟨_, hn⟩, _⟩ := h4 j t hj
    exact hn
/-- A rule's cells. -/
def RuleCs (W : World) (r : RuleL) (cs : List Value) : Prop := ∃ (A : Option Addr) (n c : Nat) (B : Option Addr) (m d : Nat), n = r.h.a.length ∧ n ≤ c ∧ m = r.b.length ∧ m ≤ d ∧ TermsRd W A r.h.a ∧ LitsRd W B r.b ∧ cs = [.string (bs r.h.p), .slice A n c, .slice B m d]
theorem trod_rule {cs : List Value} {x : DataW H × List MemPlace} (h : DataW.trod enc Tryz.prog W base sp held fuel 50 cs = some x) :
    ∃ r : RuleL, (RuleCs W r cs ∧ nR r) ∧ wR r ≤ 26 * Rows.uptoBulk x.1 := by
  obtain ⟨xs, n, _, rfl, hl, hlen, hf⟩ := DataW.trod_struct (Tryz.underlying50) h
  match xs, hlen with
  | [y0, y1], _ =>
    obtain ⟨a, A, n', c, e0, h2, h3, h4, h5, h6⟩ := trod_atom (show _ = some y0 from hf 0 _ rfl)
    obtain ⟨B, m, d, L, e1, k2, k3, k4, k5, k6⟩ := trod_lits (show _ = some y1 from hf 1 _ rfl)
    refine ⟨⟨a, L⟩, ⟨⟨A, n', c, B, m, d, h2, h3, k2, k3, h4, k4, ?_⟩, h5, k5⟩, ?_⟩
    · have s0 := drop_split (k := 0) (m := 2) (by exact e0) rfl
      have s1 := drop_split (k := 2) (m := 1) (by exact e1) rfl
      rw [drop_all (n := 3) (hl.trans (by kernel_rfl))] at s1
      rw [List.drop_zero] at s0
      rw [s0, s1]
      rfl
    · simp only [List.map_cons, List.map_nil, Rows.uptoBulk, Rows.uptoBulkAll, wR]
      omega
theorem trod_rules {cs : List Value} {x : DataW H × List MemPlace} (h : DataW.trod enc Tryz.prog W base sp held fuel 34 cs = some x) :
    ∃ (A : Option Addr) (n c : Nat) (L : List RuleL), cs = [.slice A n c] ∧ n = L.length ∧ n ≤ c ∧ RulesRd W A L ∧ (∀ t ∈ L, nR t) ∧ (L.map wR).sum + 26 ≤ 26 * Rows.uptoBulk x.1 := by
  obtain ⟨A, n, c, L, h1, h2, h3, h4, h5⟩ := trod_list (fun (t : RuleL) cs' => RuleCs W t cs' ∧ nR t) wR (Tryz.underlying34) (by kernel_rfl) (fun f cs' x' hh => trod_rule hh) h
  refine ⟨A, n, c, L, h1, h2, h3, fun j t hj => ?_, fun t ht => ?_, h5⟩
  · obtain ⟨ad, cs', rfl, ⟨⟨Aa, na, ca, Bb, mb, cb, k1, k2, k3, k4, k5, k6, rfl⟩, _⟩, _, q0, q⟩ := h4 j t hj
    exact ⟨ad, rfl, ⟨Aa, na, ca, k1, k2, q0 _ rfl, q 1 _ (by omega) rfl, k5⟩, Bb, mb, cb, k3, k4, q 2 _ (by omega) rfl, k6⟩
  · obtain ⟨j, hj⟩ := List.getElem?_of_mem ht
    obtain ⟨_, _, _, ⟨_, hn⟩, _⟩ := h4 j t hj
    exact hn
theorem trod_decl {cs : List Value} {x : DataW H × List MemPlace} (h : DataW.trod enc Tryz.prog W base sp held fuel 86 cs = some x) :
    ∃ d : DeclL, (cs = declC d ∧ nOk d.n) ∧ wD d ≤ 26 * Rows.uptoBulk x.1 := by
  obtain ⟨xs, n, _, rfl, hl, hlen, hf⟩ := DataW.trod_struct (Tryz.underlying86) h
  match xs, hlen with
  | [y0, y1], _ =>
    obtain ⟨s, e0, g0, hs⟩ := DataW.trod_string (Tryz.underlying9) (show _ = some y0 from hf 0 _ rfl)
    obtain ⟨m, e1, g1, hm⟩ := DataW.trod_int (Tryz.underlying3) (show _ = some y1 from hf 1 _ rfl)
    refine ⟨⟨s.data.toList, m⟩, ⟨?_, lit_ok64 hm⟩, ?_⟩
    · have s0 := drop_split (k := 0) (m := 1) (by exact e0) rfl
      have s1 := drop_split (k := 1) (m := 1) (by exact e1) rfl
      rw [drop_all (n := 2) (hl.trans (by kernel_rfl))] at s1
      rw [List.drop_zero] at s0
      rw [s0, s1]
      simp only [declC, bs_of]
      rfl
    · simp only [List.map_cons, List.map_nil, Rows.uptoBulk, Rows.uptoBulkAll]
      rw [g0, g1]
      simp only [Rows.uptoBulk, wD]
      omega
theorem trod_decls {cs : List Value} {x : DataW H × List MemPlace} (h : DataW.trod enc Tryz.prog W base sp held fuel 33 cs = some x) :
    ∃ (A : Option Addr) (n c : Nat) (L : List DeclL), cs = [.slice A n c] ∧ n = L.length ∧ n ≤ c ∧ DeclsRd W A L ∧ (∀ t ∈ L, nOk t.n) ∧ (L.map wD).sum + 26 ≤ 26 * Rows.uptoBulk x.1 := by
  obtain ⟨A, n, c, L, h1, h2, h3, h4, h5⟩ := trod_list (fun (t : DeclL) cs' => cs' = declC t ∧ nOk t.n) wD (Tryz.underlying33) (by kernel_rfl) (fun f cs' x' hh => trod_decl hh) h
  refine ⟨A, n, c, L, h1, h2, h3, fun j t hj => ?_, fun t ht => ?_, h5⟩
  · obtain ⟨ad, cs', rfl, ⟨rfl, _⟩, _, q0, q⟩ := h4 j t hj
    exact ⟨ad, rfl, q0 _ rfl, q 1 _ (by omega) rfl⟩
  · obtain ⟨j, hj⟩ := List.getElem?_of_mem ht
    obtain ⟨_, _, _, ⟨_, hn⟩, _⟩ := h4 j t hj
    exact hn
theorem trod_prog {cs : List Value} {x : DataW H × List MemPlace} (h : DataW.trod enc Tryz.prog W base sp held fuel 36 cs = some x) :
    ∃ (A : Option Addr) (n c : Nat) (B : Option Addr) (m d : Nat) (ds : List DeclL) (rs : List RuleL), cs = [.slice A n c, .slice B m d] ∧ ProgAt W A n c B m d ds rs ∧ nP ds rs ∧ wP ds rs ≤ 26 * Rows.uptoBulk x.1 := by
  obtain ⟨xs, n, _, rfl, hl, hlen, hf⟩ := DataW.trod_struct (Tryz.underlying36) h
  match xs, hlen with
  | [y0, y1], _ =>
    obtain ⟨A, n', c, ds, e0, h2, h3, h4, h5, h6⟩ := trod_decls (show _ = some y0 from hf 0 _ rfl)
    obtain ⟨B, m, d, rs, e1, k2, k3, k4, k5, k6⟩ := trod_rules (show _ = some y1 from hf 1 _ rfl)
    refine ⟨A, n', c, B, m, d, ds, rs, ?_, ⟨h2, k2, h4, k4⟩, ⟨h5, k5⟩, ?_⟩
    · have s0 := drop_split (k := 0) (m := 1) (by exact e0) rfl
      have s1 := drop_split (k := 1) (m := 1) (by exact e1) rfl
      rw [drop_all (n := 2) (hl.trans (by kernel_rfl))] at s1
      rw [List.drop_zero] at s0
      rw [s0, s1]
      rfl
    · simp only [List.map_cons, List.map_nil, Rows.uptoBulk, Rows.uptoBulkAll, wP]
      omega
end
theorem wL_len (l : LitL) : l.a.a.length * 24 ≤ wL l := by
  have := wA_len l.a
  unfold wL
  omega
theorem sum_len {α : Type} (w : α → Nat) (k : Nat) : ∀ L : List α, (∀ a ∈ L, k ≤ w a) → L.length * k ≤ (L.map w).sum
  | [], _ => by simp
  | a :: r, h => by
    have h1 := h a (List.mem_cons_self ..)
    have h2 := sum_len w k r fun b hb => h b (List.mem_cons_of_mem _ hb)
    rw [List.map_cons, List.sum_cons, List.length_cons, Nat.succ_mul]
    omega
theorem progOk_of {ds : List DeclL} {rs : List RuleL} (hn : nP ds rs) (hw : wP ds rs ≤ 30000000) : ProgOk ds rs := by
  unfold wP at hw
  have h1 := sum_len wD 30 ds fun d _ => by unfold wD; omega
  have h2 := sum_len wR 8 rs fun r _ => by unfold wR; omega
  refine ⟨hn, by unfold wP; omega, by omega, by omega, fun r hr => ?_⟩
  have h3 := sum_mem wR hr
  have h4 := wA_len r.h
  have h5 := sum_len wL 8 r.b fun l _ => by unfold wL; omega
  have h6 : wR r = wA r.h + 8 + (r.b.map wL).sum := rfl
  refine ⟨by omega, by omega, fun l hl => ?_⟩
  have h7 := sum_mem wL hl
  have h8 := wL_len l
  omega
theorem up_of {H : Type} {l : List (DataW H)} {y : DataW H} {P : Prop} (h : Rows.uptoBulk y ≤ 1048576 → P) (hm : y ∈ l) (hk : Rows.uptoBulkAll l ≤ 1048576) : P := h (Nat.le_trans (bulk_mem hm) hk)
/-- A program that came in. -/
theorem arg_prog {H : Type} {enc : TypeId × Value → H} {W : World} {r : Reach} {b0 base : Nat} {v : Value} {y : DataW H} {ps : List MemPlace} {sp : Nat → Bool} {held : Bool} (hv : Value.okWide Tryz.prog W r b0 36 v)
    (h : DataW.Trod enc Tryz.prog W base sp held 36 v y ps) : ∃ (A : Option Addr) (n c : Nat) (B : Option Addr) (m d : Nat) (ds : List DeclL) (rs : List RuleL), v = .agg #[.slice A n c, .slice B m d] ∧ ProgAt W A n c B m d ds rs ∧ (Rows.uptoBulk y ≤ 1048576 → ProgOk ds rs) := by
  obtain ⟨cs, rfl, hs⟩ := okWide_struct (Tryz.underlying36) hv
  obtain ⟨fuel, hf⟩ := h
  obtain ⟨A, n, c, B, m, d, ds, rs, e, h1, h2, h3⟩ := trod_prog hf
  exact ⟨A, n, c, B, m, d, ds, rs, congrArg Value.agg (Array.ext' (by exact e)), h1, fun hb => progOk_of h2 (by dsimp only at h3; omega)⟩
/-- An atom that came in. -/
theorem arg_atom {H : Type} {enc : TypeId × Value → H} {W : World} {r : Reach} {b0 base : Nat} {v : Value} {y : DataW H} {ps : List MemPlace} {sp : Nat → Bool} {held : Bool} (hv : Value.okWide Tryz.prog W r b0 25 v)
    (h : DataW.Trod enc Tryz.prog W base sp held 25 v y ps) : ∃ (A : Option Addr) (n c : Nat) (x : AtomL), v = .agg #[.string (bs x.p), .slice A n c] ∧ n = x.a.length ∧ n ≤ c ∧ TermsRd W A x.a ∧ (Rows.uptoBulk y ≤ 1048576 → nA x ∧ wA x ≤ 27262976) := by
  obtain ⟨cs, rfl, hs⟩ := okWide_struct (Tryz.underlying25) hv
  obtain ⟨fuel, hf⟩ := h
  obtain ⟨x, A, n, c, e, h1, h2, h3, h4, h5⟩ := trod_atom hf
  exact ⟨A, n, c, x, congrArg Value.agg (Array.ext' (by exact e)), h1, h2, h3, fun hb => ⟨h4, by dsimp only at h5; omega⟩⟩
end Go.Proofs.YtminbdcabacfbaaGreatDoor.V

namespace Go.Proofs.YtminbdcabacfbaaGreatDoor.V
set_option linter.unusedVariables false
set_option linter.unusedSimpArgs false
open Go.RowKit

/-- What Atom hands back. -/
def PAtomIs (s : ByteArray) (w : World) (e : Ending) (w' : World) : Prop :=
  Below w.heap.size w w' ∧ match atomL s.data.toList with
    | .bad a n => e = .returned (.tuple #[.agg #[.string ⟨#[]⟩, .slice none 0 0], .int .i64 (a : Int), .int .i64 (n : Int)])
    | .ok x => ∃ v, e = .returned (.tuple #[.agg #[.string (bs x.p), v], .int .i64 0, .int .i64 0]) ∧ TermsAt w.heap.size w' x.a v

set_option maxRecDepth 100000 in
set_option maxHeartbeats 16000000 in
theorem patom_calls (s : ByteArray) (w : World) (hs : s.size ≤ 9223372036854775807) (hE : ErrW w) :
    Calls Tryz.prog 11 #[.string s] w (PAtomIs s w) := by
  have HE := Lib.hid (hE.below ((Below.refl w.heap.size w).alloc (Nat.le_refl _) (.cells #[.string ⟨#[]⟩, .slice none 0 0] 25)))
  have HR0 := Lib.hid (heap_alloc_new w (.cells #[.string ⟨#[]⟩, .slice none 0 0] 25))
  clear hE
  cases ho : scanL s.data.toList with
  | bad a n =>
    have HO := Lib.hid ho
    have HF := Lib.hid (show atomL s.data.toList = .bad a n by unfold atomL; rw [ho])
    have HBB := Lib.hid (show ((n : Int) == 0) = false by have := scan_bad ho; simp; omega)
    clear ho
    go_enter Tryz.func11, Tryz.ntmps11
    go_wp2_with (first
      | (go_at_call 32; ((with_reducible refine (parsing_calls s _ hs HE.out).mono ?_); rintro e w2 ⟨P, rfl, hP, hb, hsc⟩; rw [HO.out] at hsc; obtain ⟨hn, hp⟩ := hsc; have hb3 := (Below.refl w2.heap.size w2).alloc (Nat.le_refl _) (.cells #[.string ⟨#[]⟩, .slice none 0 0] 25); have hp3 := (hb3.block P (Array.getElem?_eq_some_iff.1 hp).1).trans hp; have hr3 := (hb3.block w.heap.size (Nat.lt_of_lt_of_le (by simp) hb.size)).trans ((hb.block w.heap.size (by simp)).trans HR0.out); have c0 := cell_of_row _ P 0 _ _ _ hp3; have c1 := cell_of_row _ P 1 _ _ _ hp3; have c3 := cell_of_row _ P 3 _ _ _ hp3; have c4 := cell_of_row _ P 4 _ _ _ hp3; have C4 := Lib.hid c4; have z0 := cell_of_row _ w.heap.size 0 _ _ _ hr3; have z1 := cell_of_row _ w.heap.size 1 _ _ _ hr3; have y0 := frozen_of_row _ w.heap.size 0 _ _ hr3; have y1 := frozen_of_row _ w.heap.size 1 _ _ hr3; have HB := Lib.hid hb; have HRR := Lib.hid hr3; clear hn hp hb hb3 hp3 hr3))
      | (go_at_call 33; ((with_reducible refine (pokq false _ ?_ HBB.out).mono ?_); (focus (exact C4.out)); rintro e w' ⟨rfl, hw⟩; rw [hw]; clear hw)))
    go_region
    go_wp2_with (first
      | (go_at_call 33; ((with_reducible refine (pokq false _ ?_ HBB.out).mono ?_); (focus (exact C4.out)); rintro e w' ⟨rfl, hw⟩; rw [hw]; clear hw)))
    go_region
    go_wp2_with fail
    -- THE END
    have hB2 : Below w.heap.size w (w2.alloc (.cells #[.string ⟨#[]⟩, .slice none 0 0] 25)) := ((((Below.refl w.heap.size w).alloc (Nat.le_refl _) (.cells #[.string ⟨#[]⟩, .slice none 0 0] 25)).trans (HB.out.mono (by simp))).alloc (by have := HB.out.size; simp at this; omega) _)
    have hset := set_at (i := 1) (cs' := #[.string ⟨#[]⟩, .slice none 0 0]) (set_at (i := 0) (cs' := #[.string ⟨#[]⟩, .slice none 0 0]) HRR.out (.string ⟨#[]⟩) rfl) (.slice none 0 0) rfl
    have q0 := cell_of_row _ _ 0 _ _ _ hset
    have q1 := cell_of_row _ _ 1 _ _ _ hset
    refine bodyPost_ret (v := .tuple #[.agg #[.string ⟨#[]⟩, .slice none 0 0], .int .i64 (a : Int), .int .i64 (n : Int)]) (by simp [results, Tryz.results11, go_sem, q0, q1]) rfl ⟨((hB2.setCell (Nat.le_refl _) _).setCell (Nat.le_refl _) _).drew.drew, ?_⟩
    rw [HF.out]
  | ok l =>
    have HO := Lib.hid ho
    have HMAX := Lib.hid (scanL_max ho)
    have HF0 := Lib.hid (show atomL s.data.toList = match atomP s.size l with | .bad a e => .bad a e | .ok x [] => .ok x | .ok x (t :: _) => .bad t.2 2 by
      unfold atomL
      rw [ho]
      simp only [Array.length_toList, ByteArray.size_data]
      rfl)
    clear ho
    cases ha : atomP s.size l with
    | bad a n =>
      have HAT := Lib.hid ha
      have HF := Lib.hid (show atomL s.data.toList = .bad a n by rw [HF0.out, ha])
      clear ha
      go_enter Tryz.func11, Tryz.ntmps11
      go_wp2_with (first
        | (go_at_call 32; ((with_reducible refine (parsing_calls s _ hs HE.out).mono ?_); rintro e w2 ⟨P, rfl, hP, hb, hsc⟩; rw [HO.out] at hsc; obtain ⟨A, c, hp⟩ := hsc; have HPG := Lib.hid (show w.heap.size + 1 ≤ P by simpa using hP); have HPL := Lib.hid hp.lt; have HB := Lib.hid hb; have hs3 := hp.below ((Below.refl w2.heap.size w2).alloc (Nat.le_refl _) (.cells #[.string ⟨#[]⟩, .slice none 0 0] 25)); have HS3 := Lib.hid hs3; have C4 := Lib.hid hs3.c4; have HSZ := Lib.hid (show w.heap.size + 1 ≤ w2.heap.size by have := hb.size; simpa using this); have HR3 := Lib.hid (blk_keep (blk_keep HR0.out (grown_below hb none) (by simp)) (World.grownBy_alloc w2 (.cells #[.string ⟨#[]⟩, .slice none 0 0] 25) none) (by simp)); have HA3 := Lib.hid (heap_alloc_new w2 (.cells #[.string ⟨#[]⟩, .slice none 0 0] 25)); have HB3 := Lib.hid (show Below w.heap.size w (w2.alloc (.cells #[.string ⟨#[]⟩, .slice none 0 0] 25)) from ((((Below.refl w.heap.size w).alloc (Nat.le_refl _) (.cells #[.string ⟨#[]⟩, .slice none 0 0] 25)).trans (hb.mono (by simp))).alloc (by have := hb.size; simp at this; omega) _)); clear hP hb hp hs3))
        | (go_at_call 33; ((with_reducible refine (pokq true _ C4.out rfl).mono ?_); rintro e w' ⟨rfl, hw⟩; rw [hw]; clear hw))
        | (go_at_call 34; ((with_reducible refine (atom_calls (r := l) _ (po_at (nx := 0) (Nat.zero_le _) rfl HS3.out) HMAX.out).mono ?_); rintro e w4 ⟨hg4, x, v, rfl, hta, hgot⟩; obtain ⟨Aa, ca, rfl⟩ := o_slice hta; rw [HAT.out] at hgot; obtain ⟨he0, nx1, hnx1, hS1⟩ := hgot; have hr4 := blk_keep HR3.out hg4 (by have := HPG.out; simp; omega); have ha4 := blk_keep HA3.out hg4 (by have := HPL.out; simp; omega); have k0 := cell_of_row w4 w2.heap.size 0 _ _ _ ha4; have k1 := cell_of_row w4 w2.heap.size 1 _ _ _ ha4; have l0 := frozen_of_row w4 w2.heap.size 0 _ _ ha4; have l1 := frozen_of_row w4 w2.heap.size 1 _ _ ha4; have HR4 := Lib.hid hr4; have HA4 := Lib.hid ha4; have HTA := Lib.hid hta; have HG4 := Lib.hid hg4; have HBB := Lib.hid (show ((n : Int) == 0) = false by simp; omega); have HS4 := Lib.hid hS1; have HN1 := Lib.hid hnx1; clear hnx1 hS1 hg4 hr4 ha4 hta; refine RowKit.Hid.out ?_)))
      refine Lib.hid ?_
      go_wp2_with fail
      have hgS := grown_set (grown_set (World.grownBy.refl w4 (some w2.heap.size)) 0 (.string (bs x.p))) 1 (.slice Aa x.a.length ca)
      have hS5 := HS4.out.step hgS (fun j hj => by cases hj; exact ⟨by have := HPL.out; omega, _, _, _, HA4.out, by decide⟩)
      have hr5 := blk_keep HR4.out hgS (by have := HSZ.out; simp; omega)
      have ha5 := set_at (i := 1) (cs' := #[.string (bs x.p), .slice Aa x.a.length ca]) (set_at (i := 0) (cs' := #[.string (bs x.p), .slice none 0 0]) HA4.out (.string (bs x.p)) rfl) (.slice Aa x.a.length ca) rfl
      have hta5 : TermsAt (w2.heap.size + 1) ((w4.setCell ⟨w2.heap.size, 0, none⟩ (.string (bs x.p))).setCell ⟨w2.heap.size, 1, none⟩ (.slice Aa x.a.length ca)) x.a (.slice Aa x.a.length ca) := (TermsAt.base HTA.out (by simp)).kept hgS (fun j hj => by cases hj; exact .inl (Nat.lt_succ_self _))
      have hB4 : Below w.heap.size w w4 := HB3.out.grown HG4.out (by have := HSZ.out; simp; omega) (fun j hj => by cases hj; have := HPG.out; omega)
      have hB5 : Below w.heap.size w ((w4.setCell ⟨w2.heap.size, 0, none⟩ (.string (bs x.p))).setCell ⟨w2.heap.size, 1, none⟩ (.slice Aa x.a.length ca)) := (hB4.setCell (by have := HSZ.out; show w.heap.size ≤ w2.heap.size; omega) _).setCell (by have := HSZ.out; show w.heap.size ≤ w2.heap.size; omega) _
      have HS5 := Lib.hid hS5
      have HR5 := Lib.hid hr5
      have HA5 := Lib.hid ha5
      have HT5 := Lib.hid hta5
      have HB5 := Lib.hid hB5
      have c0 := hS5.c0; have c1 := hS5.c1; have c3 := hS5.c3; have c4 := hS5.c4
      have z0 := cell_of_row _ _ 0 _ _ _ hr5; have z1 := cell_of_row _ _ 1 _ _ _ hr5
      have y0 := frozen_of_row _ _ 0 _ _ hr5; have y1 := frozen_of_row _ _ 1 _ _ hr5
      have a0 := cell_of_row _ _ 0 _ _ _ ha5; have a1 := cell_of_row _ _ 1 _ _ _ ha5
      have C4' := Lib.hid c4
      clear hgS hS5 hr5 ha5 hta5 hB4 hB5 k0 k1 l0 l1
      obtain ⟨⟨⟨k2, s2, n2, q2⟩, a2⟩, hp2⟩ : ∃ p, pk s.size (l.drop nx1) 0 = p := ⟨_, rfl⟩
      have HP2 := Lib.hid hp2
      clear hp2
      by_cases hlt : nx1 < l.length
      · have hd : decide ((nx1 : Int) < (l.length : Int)) = true := decide_eq_true (by omega)
        go_region
        clear c0 c1 c3 c4 z0 z1 y0 y1 a0 a1
        go_wp2_with (first
          | (go_at_call 36; ((with_reducible refine (peek0_calls ⟨k2, s2, n2, q2⟩ a2 _ (HS5.out.below (Below.refl _ _).drew) HP2.out).mono ?_); rintro e w6 ⟨rfl, hb6⟩; have HB6 := Lib.hid (HB5.out.drew.trans (Below.mono (hb6) HB5.out.size)); have HS6 := Lib.hid ((HS5.out.below (Below.refl _ _).drew).below hb6); have HR6 := Lib.hid (blk_keep HR5.out (un_drew (grown_below hb6 none)) (by simp)); clear hb6))
          | (go_at_call 35; ((with_reducible refine (fail_bad_calls _ (bs s2) n2 q2 a2 2 _ HS6.out HBB.out).mono ?_); rintro e w7 ⟨rfl, hb7⟩; have HS7 := Lib.hid (HS6.out.below hb7); have HB7 := Lib.hid (HB6.out.trans (hb7.mono HB6.out.size)); have hr7 := blk_keep HR6.out (grown_below hb7 none) (by simp); have HR7 := Lib.hid hr7; have d3 := HS7.out.c3; have d4 := HS7.out.c4; have D4 := Lib.hid d4; have x0 := cell_of_row w7 w.heap.size 0 _ _ _ HR7.out; have x1 := cell_of_row w7 w.heap.size 1 _ _ _ HR7.out; have x2 := frozen_of_row w7 w.heap.size 0 _ _ HR7.out; have x3 := frozen_of_row w7 w.heap.size 1 _ _ HR7.out; clear hb7 hr7))
          | (go_at_call 33; ((with_reducible refine (pokq false _ D4.out HBB.out).mono ?_); rintro e w' ⟨rfl, hw⟩; rw [hw]; clear hw)))
        go_region
        go_wp2_with fail
        have hset := set_at (i := 1) (cs' := #[.string ⟨#[]⟩, .slice none 0 0]) (set_at (i := 0) (cs' := #[.string ⟨#[]⟩, .slice none 0 0]) HR7.out (.string ⟨#[]⟩) rfl) (.slice none 0 0) rfl
        have q0 := cell_of_row _ _ 0 _ _ _ hset
        have q1 := cell_of_row _ _ 1 _ _ _ hset
        refine bodyPost_ret (v := .tuple #[.agg #[.string ⟨#[]⟩, .slice none 0 0], .int .i64 (a : Int), .int .i64 (n : Int)]) (by simp [results, Tryz.results11, go_sem, q0, q1]) rfl ⟨((HB7.out.setCell (Nat.le_refl _) _).setCell (Nat.le_refl _) _).drew, ?_⟩
        rw [HF.out]
      · have hd : decide ((nx1 : Int) < (l.length : Int)) = false := decide_eq_false (by omega)
        go_region
        go_wp2_with (go_at_call 33; ((with_reducible refine (pokq false _ ?_ HBB.out).mono ?_); (focus (exact C4'.out)); rintro e w' ⟨rfl, hw⟩; rw [hw]; clear hw))
        go_region
        go_wp2_with fail
        have hset := set_at (i := 1) (cs' := #[.string ⟨#[]⟩, .slice none 0 0]) (set_at (i := 0) (cs' := #[.string ⟨#[]⟩, .slice none 0 0]) HR5.out (.string ⟨#[]⟩) rfl) (.slice none 0 0) rfl
        have q0 := cell_of_row _ _ 0 _ _ _ hset
        have q1 := cell_of_row _ _ 1 _ _ _ hset
        refine bodyPost_ret (v := .tuple #[.agg #[.string ⟨#[]⟩, .slice none 0 0], .int .i64 (a : Int), .int .i64 (n : Int)]) (by simp [results, Tryz.results11, go_sem, q0, q1]) rfl ⟨((HB5.out.setCell (Nat.le_refl _) _).setCell (Nat.le_refl _) _).drew.drew, ?_⟩
        rw [HF.out]
    | ok x0 r0 =>
      have HAT := Lib.hid ha
      cases hr0 : r0 with
      | nil =>
        have HF := Lib.hid (show atomL s.data.toList = .ok x0 by rw [HF0.out, ha, hr0])
        have HR0N := Lib.hid hr0
        clear ha hr0
        go_enter Tryz.func11, Tryz.ntmps11
        go_wp2_with (first
          | (go_at_call 32; ((with_reducible refine (parsing_calls s _ hs HE.out).mono ?_); rintro e w2 ⟨P, rfl, hP, hb, hsc⟩; rw [HO.out] at hsc; obtain ⟨A, c, hp⟩ := hsc; have HPG := Lib.hid (show w.heap.size + 1 ≤ P by simpa using hP); have HPL := Lib.hid hp.lt; have HB := Lib.hid hb; have hs3 := hp.below ((Below.refl w2.heap.size w2).alloc (Nat.le_refl _) (.cells #[.string ⟨#[]⟩, .slice none 0 0] 25)); have HS3 := Lib.hid hs3; have C4 := Lib.hid hs3.c4; have HSZ := Lib.hid (show w.heap.size + 1 ≤ w2.heap.size by have := hb.size; simpa using this); have HR3 := Lib.hid (blk_keep (blk_keep HR0.out (grown_below hb none) (by simp)) (World.grownBy_alloc w2 (.cells #[.string ⟨#[]⟩, .slice none 0 0] 25) none) (by simp)); have HA3 := Lib.hid (heap_alloc_new w2 (.cells #[.string ⟨#[]⟩, .slice none 0 0] 25)); have HB3 := Lib.hid (show Below w.heap.size w (w2.alloc (.cells #[.string ⟨#[]⟩, .slice none 0 0] 25)) from ((((Below.refl w.heap.size w).alloc (Nat.le_refl _) (.cells #[.string ⟨#[]⟩, .slice none 0 0] 25)).trans (hb.mono (by simp))).alloc (by have := hb.size; simp at this; omega) _)); clear hP hb hp hs3))
          | (go_at_call 33; ((with_reducible refine (pokq true _ C4.out rfl).mono ?_); rintro e w' ⟨rfl, hw⟩; rw [hw]; clear hw))
          | (go_at_call 34; ((with_reducible refine (atom_calls (r := l) _ (po_at (nx := 0) (Nat.zero_le _) rfl HS3.out) HMAX.out).mono ?_); rintro e w4 ⟨hg4, x, v, rfl, hta, hgot⟩; obtain ⟨Aa, ca, rfl⟩ := o_slice hta; rw [HAT.out] at hgot; obtain ⟨hxx, nx1, hnx1, hr1, hS1⟩ := hgot; have hr4 := blk_keep HR3.out hg4 (by have := HPG.out; simp; omega); have ha4 := blk_keep HA3.out hg4 (by have := HPL.out; simp; omega); have k0 := cell_of_row w4 w2.heap.size 0 _ _ _ ha4; have k1 := cell_of_row w4 w2.heap.size 1 _ _ _ ha4; have l0 := frozen_of_row w4 w2.heap.size 0 _ _ ha4; have l1 := frozen_of_row w4 w2.heap.size 1 _ _ ha4; have HR4 := Lib.hid hr4; have HA4 := Lib.hid ha4; have HTA := Lib.hid hta; have HG4 := Lib.hid hg4; have HXX := Lib.hid hxx; have HR1 := Lib.hid hr1; clear hxx hr1; have HS4 := Lib.hid hS1; have HN1 := Lib.hid hnx1; clear hnx1 hS1 hg4 hr4 ha4 hta; refine RowKit.Hid.out ?_)))
        refine Lib.hid ?_
        go_wp2_with fail
        have hgS := grown_set (grown_set (World.grownBy.refl w4 (some w2.heap.size)) 0 (.string (bs x.p))) 1 (.slice Aa x.a.length ca)
        have hS5 := HS4.out.step hgS (fun j hj => by cases hj; exact ⟨by have := HPL.out; omega, _, _, _, HA4.out, by decide⟩)
        have hr5 := blk_keep HR4.out hgS (by have := HSZ.out; simp; omega)
        have ha5 := set_at (i := 1) (cs' := #[.string (bs x.p), .slice Aa x.a.length ca]) (set_at (i := 0) (cs' := #[.string (bs x.p), .slice none 0 0]) HA4.out (.string (bs x.p)) rfl) (.slice Aa x.a.length ca) rfl
        have hta5 : TermsAt (w2.heap.size + 1) ((w4.setCell ⟨w2.heap.size, 0, none⟩ (.string (bs x.p))).setCell ⟨w2.heap.size, 1, none⟩ (.slice Aa x.a.length ca)) x.a (.slice Aa x.a.length ca) := (TermsAt.base HTA.out (by simp)).kept hgS (fun j hj => by cases hj; exact .inl (Nat.lt_succ_self _))
        have hB4 : Below w.heap.size w w4 := HB3.out.grown HG4.out (by have := HSZ.out; simp; omega) (fun j hj => by cases hj; have := HPG.out; omega)
        have hB5 : Below w.heap.size w ((w4.setCell ⟨w2.heap.size, 0, none⟩ (.string (bs x.p))).setCell ⟨w2.heap.size, 1, none⟩ (.slice Aa x.a.length ca)) := (hB4.setCell (by have := HSZ.out; show w.heap.size ≤ w2.heap.size; omega) _).setCell (by have := HSZ.out; show w.heap.size ≤ w2.heap.size; omega) _
        have HS5 := Lib.hid hS5
        have HR5 := Lib.hid hr5
        have HA5 := Lib.hid ha5
        have HT5 := Lib.hid hta5
        have HB5 := Lib.hid hB5
        have c0 := hS5.c0; have c1 := hS5.c1; have c3 := hS5.c3; have c4 := hS5.c4
        have z0 := cell_of_row _ _ 0 _ _ _ hr5; have z1 := cell_of_row _ _ 1 _ _ _ hr5
        have y0 := frozen_of_row _ _ 0 _ _ hr5; have y1 := frozen_of_row _ _ 1 _ _ hr5
        have a0 := cell_of_row _ _ 0 _ _ _ ha5; have a1 := cell_of_row _ _ 1 _ _ _ ha5
        have C4' := Lib.hid c4
        clear hgS hS5 hr5 ha5 hta5 hB4 hB5 k0 k1 l0 l1
        have hlt : ¬ nx1 < l.length := by have h1 := congrArg List.length HR1.out; have h2 := HN1.out; rw [HR0N.out] at h1; simp at h1; omega
        have hd : decide ((nx1 : Int) < (l.length : Int)) = false := decide_eq_false (by omega)
        go_region
        go_wp2_with (go_at_call 33; ((with_reducible refine (pokq true _ ?_ (show ((0 : Int) == 0) = true from rfl)).mono ?_); (focus (exact C4'.out)); rintro e w' ⟨rfl, hw⟩; rw [hw]; clear hw))
        have hset := set_at (i := 1) (cs' := #[.string (bs x.p), .slice Aa x.a.length ca]) (set_at (i := 0) (cs' := #[.string (bs x.p), .slice none 0 0]) HR5.out (.string (bs x.p)) rfl) (.slice Aa x.a.length ca) rfl
        have q0 := cell_of_row _ _ 0 _ _ _ hset
        have q1 := cell_of_row _ _ 1 _ _ _ hset
        refine bodyPost_ret (v := .tuple #[.agg #[.string (bs x.p), .slice Aa x.a.length ca], .int .i64 0, .int .i64 0]) ?_ rfl ?_
        · simp [results, Tryz.results11, go_sem, q0, q1]
        refine ⟨((HB5.out.setCell (Nat.le_refl _) _).setCell (Nat.le_refl _) _).drew, ?_⟩
        rw [HF.out, HXX.out]
        have hg2 := grown_set (grown_set (World.grownBy.refl ((w4.setCell ⟨w2.heap.size, 0, none⟩ (.string (bs x.p))).setCell ⟨w2.heap.size, 1, none⟩ (.slice Aa x.a.length ca)) (some w.heap.size)) 0 (.string (bs x.p))) 1 (.slice Aa x.a.length ca)
        exact ⟨_, rfl, TermsAt.base (HT5.out.kept (row := some w.heap.size) (grown_drew hg2) (fun j hj => by cases hj; exact .inl (by have := HSZ.out; omega))) (by have := HSZ.out; omega)⟩
      | cons t0 r1 =>
        have HF := Lib.hid (show atomL s.data.toList = .bad t0.2 2 by rw [HF0.out, ha, hr0])
        have HR0N := Lib.hid hr0
        clear ha hr0
        go_enter Tryz.func11, Tryz.ntmps11
        go_wp2_with (first
          | (go_at_call 32; ((with_reducible refine (parsing_calls s _ hs HE.out).mono ?_); rintro e w2 ⟨P, rfl, hP, hb, hsc⟩; rw [HO.out] at hsc; obtain ⟨A, c, hp⟩ := hsc; have HPG := Lib.hid (show w.heap.size + 1 ≤ P by simpa using hP); have HPL := Lib.hid hp.lt; have HB := Lib.hid hb; have hs3 := hp.below ((Below.refl w2.heap.size w2).alloc (Nat.le_refl _) (.cells #[.string ⟨#[]⟩, .slice none 0 0] 25)); have HS3 := Lib.hid hs3; have C4 := Lib.hid hs3.c4; have HSZ := Lib.hid (show w.heap.size + 1 ≤ w2.heap.size by have := hb.size; simpa using this); have HR3 := Lib.hid (blk_keep (blk_keep HR0.out (grown_below hb none) (by simp)) (World.grownBy_alloc w2 (.cells #[.string ⟨#[]⟩, .slice none 0 0] 25) none) (by simp)); have HA3 := Lib.hid (heap_alloc_new w2 (.cells #[.string ⟨#[]⟩, .slice none 0 0] 25)); have HB3 := Lib.hid (show Below w.heap.size w (w2.alloc (.cells #[.string ⟨#[]⟩, .slice none 0 0] 25)) from ((((Below.refl w.heap.size w).alloc (Nat.le_refl _) (.cells #[.string ⟨#[]⟩, .slice none 0 0] 25)).trans (hb.mono (by simp))).alloc (by have := hb.size; simp at this; omega) _)); clear hP hb hp hs3))
          | (go_at_call 33; ((with_reducible refine (pokq true _ C4.out rfl).mono ?_); rintro e w' ⟨rfl, hw⟩; rw [hw]; clear hw))
          | (go_at_call 34; ((with_reducible refine (atom_calls (r := l) _ (po_at (nx := 0) (Nat.zero_le _) rfl HS3.out) HMAX.out).mono ?_); rintro e w4 ⟨hg4, x, v, rfl, hta, hgot⟩; obtain ⟨Aa, ca, rfl⟩ := o_slice hta; rw [HAT.out] at hgot; obtain ⟨hxx, nx1, hnx1, hr1, hS1⟩ := hgot; have hr4 := blk_keep HR3.out hg4 (by have := HPG.out; simp; omega); have ha4 := blk_keep HA3.out hg4 (by have := HPL.out; simp; omega); have k0 := cell_of_row w4 w2.heap.size 0 _ _ _ ha4; have k1 := cell_of_row w4 w2.heap.size 1 _ _ _ ha4; have l0 := frozen_of_row w4 w2.heap.size 0 _ _ ha4; have l1 := frozen_of_row w4 w2.heap.size 1 _ _ ha4; have HR4 := Lib.hid hr4; have HA4 := Lib.hid ha4; have HTA := Lib.hid hta; have HG4 := Lib.hid hg4; have HXX := Lib.hid hxx; have HR1 := Lib.hid hr1; clear hxx hr1; have HS4 := Lib.hid hS1; have HN1 := Lib.hid hnx1; clear hnx1 hS1 hg4 hr4 ha4 hta; refine RowKit.Hid.out ?_)))
        refine Lib.hid ?_
        go_wp2_with fail
        have hgS := grown_set (grown_set (World.grownBy.refl w4 (some w2.heap.size)) 0 (.string (bs x.p))) 1 (.slice Aa x.a.length ca)
        have hS5 := HS4.out.step hgS (fun j hj => by cases hj; exact ⟨by have := HPL.out; omega, _, _, _, HA4.out, by decide⟩)
        have hr5 := blk_keep HR4.out hgS (by have := HSZ.out; simp; omega)
        have ha5 := set_at (i := 1) (cs' := #[.string (bs x.p), .slice Aa x.a.length ca]) (set_at (i := 0) (cs' := #[.string (bs x.p), .slice none 0 0]) HA4.out (.string (bs x.p)) rfl) (.slice Aa x.a.length ca) rfl
        have hta5 : TermsAt (w2.heap.size + 1) ((w4.setCell ⟨w2.heap.size, 0, none⟩ (.string (bs x.p))).setCell ⟨w2.heap.size, 1, none⟩ (.slice Aa x.a.length ca)) x.a (.slice Aa x.a.length ca) := (TermsAt.base HTA.out (by simp)).kept hgS (fun j hj => by cases hj; exact .inl (Nat.lt_succ_self _))
        have hB4 : Below w.heap.size w w4 := HB3.out.grown HG4.out (by have := HSZ.out; simp; omega) (fun j hj => by cases hj; have := HPG.out; omega)
        have hB5 : Below w.heap.size w ((w4.setCell ⟨w2.heap.size, 0, none⟩ (.string (bs x.p))).setCell ⟨w2.heap.size, 1, none⟩ (.slice Aa x.a.length ca)) := (hB4.setCell (by have := HSZ.out; show w.heap.size ≤ w2.heap.size; omega) _).setCell (by have := HSZ.out; show w.heap.size ≤ w2.heap.size; omega) _
        have HS5 := Lib.hid hS5
        have HR5 := Lib.hid hr5
        have HA5 := Lib.hid ha5
        have HT5 := Lib.hid hta5
        have HB5 := Lib.hid hB5
        have c0 := hS5.c0; have c1 := hS5.c1; have c3 := hS5.c3; have c4 := hS5.c4
        have z0 := cell_of_row _ _ 0 _ _ _ hr5; have z1 := cell_of_row _ _ 1 _ _ _ hr5
        have y0 := frozen_of_row _ _ 0 _ _ hr5; have y1 := frozen_of_row _ _ 1 _ _ hr5
        have a0 := cell_of_row _ _ 0 _ _ _ ha5; have a1 := cell_of_row _ _ 1 _ _ _ ha5
        have C4' := Lib.hid c4
        clear hgS hS5 hr5 ha5 hta5 hB4 hB5 k0 k1 l0 l1
        obtain ⟨⟨⟨k2, s2, n2, q2⟩, a2⟩, hp2⟩ : ∃ p, t0 = p := ⟨_, rfl⟩
        have HP2 := Lib.hid (show pk s.size (l.drop nx1) 0 = (⟨k2, s2, n2, q2⟩, a2) by rw [HR1.out, HR0N.out, hp2]; rfl)
        have HT0 := Lib.hid hp2
        clear hp2
        have hlt : nx1 < l.length := by have h1 := congrArg List.length HR1.out; rw [HR0N.out] at h1; simp at h1; omega
        have hd : decide ((nx1 : Int) < (l.length : Int)) = true := decide_eq_true (by omega)
        go_region
        clear c0 c1 c3 c4 z0 z1 y0 y1 a0 a1
        go_wp2_with (first
          | (go_at_call 36; ((with_reducible refine (peek0_calls ⟨k2, s2, n2, q2⟩ a2 _ (HS5.out.below (Below.refl _ _).drew) HP2.out).mono ?_); rintro e w6 ⟨rfl, hb6⟩; have HB6 := Lib.hid (HB5.out.drew.trans (Below.mono (hb6) HB5.out.size)); have HS6 := Lib.hid ((HS5.out.below (Below.refl _ _).drew).below hb6); have HR6 := Lib.hid (blk_keep HR5.out (un_drew (grown_below hb6 none)) (by simp)); clear hb6))
          | (go_at_call 35; ((with_reducible refine (fail_ok_calls _ (bs s2) n2 q2 a2 2 _ HS6.out).mono ?_); rintro e w7 ⟨rfl, hs7, hg7⟩; have HS7 := Lib.hid hs7; have HB7 := Lib.hid (HB6.out.grown hg7 (Nat.le_trans (Nat.le_refl _) HB6.out.size) (fun j hj => by cases hj; have := HPG.out; omega)); have hr7 := blk_keep HR6.out hg7 (by have := HPG.out; simp; omega); have HR7 := Lib.hid hr7; have d3 := HS7.out.c3; have d4 := HS7.out.c4; have D4 := Lib.hid d4; have x0 := cell_of_row w7 w.heap.size 0 _ _ _ HR7.out; have x1 := cell_of_row w7 w.heap.size 1 _ _ _ HR7.out; have x2 := frozen_of_row w7 w.heap.size 0 _ _ HR7.out; have x3 := frozen_of_row w7 w.heap.size 1 _ _ HR7.out; clear hs7 hg7 hr7))
          | (go_at_call 33; ((with_reducible refine (pokq false _ D4.out (show ((2 : Int) == 0) = false from rfl)).mono ?_); rintro e w' ⟨rfl, hw⟩; rw [hw]; clear hw)))
        go_region
        go_wp2_with fail
        have hset := set_at (i := 1) (cs' := #[.string ⟨#[]⟩, .slice none 0 0]) (set_at (i := 0) (cs' := #[.string ⟨#[]⟩, .slice none 0 0]) HR7.out (.string ⟨#[]⟩) rfl) (.slice none 0 0) rfl
        have q0 := cell_of_row _ _ 0 _ _ _ hset
        have q1 := cell_of_row _ _ 1 _ _ _ hset
        refine bodyPost_ret (v := .tuple #[.agg #[.string ⟨#[]⟩, .slice none 0 0], .int .i64 (a2 : Int), .int .i64 (2 : Int)]) (by simp [results, Tryz.results11, go_sem, q0, q1]) rfl ⟨((HB7.out.setCell (Nat.le_refl _) _).setCell (Nat.le_refl _) _).drew, ?_⟩
        rw [HF.out]
        rw [HT0.out]
        rfl
end Go.Proofs.YtminbdcabacfbaaGreatDoor.V

namespace Go.Proofs.YtminbdcabacfbaaGreatDoor.V
set_option linter.unusedVariables false
set_option linter.unusedSimpArgs false
open Go.RowKit

def valC (t : TermL) : List Value := [.bool t.s, .string (bs t.t), .int .i64 t.n]
theorem val_info : (Tryz.prog.info? 43).map (fun i => (i.zero, i.size, i.bytes)) = some (some (.agg #[.bool false, .string ⟨#[]⟩, .int .i64 0]), 3, 32) := by kernel_rfl
theorem vals_rd {W : World} {B n c : Nat} {A : Option Addr} {L : List TermL} (h : W.ownsRow B 43 3 (.slice A n c) n (L.flatMap valC)) (hn : n = L.length) (hv : ∀ t ∈ L, t.v = false ∧ t.x = []) : ValsRd W A L := by
  intro j t hj
  obtain ⟨g, rfl, hc⟩ := flat_row valC (fun x => rfl) h hn hj
  obtain ⟨h1, h2⟩ := hv t (List.mem_of_getElem? hj)
  refine ⟨_, rfl, ?_⟩
  rw [addr_add]
  exact ⟨h1, h2, hc 0 _ (by omega) rfl, hc 1 _ (by omega) rfl, hc 2 _ (by omega) rfl⟩
/-- A fact's block. -/
def IsFc (T : Nat) (v0 v1 : Value) (w : World) : Prop := w.heap[T]? = some (.cells #[v0, v1] 53 (0, 0))
theorem IsFc.c0 {T : Nat} {v0 v1 : Value} {w : World} (h : IsFc T v0 v1 w) : w.cell? ⟨T, 0, none⟩ = some v0 := cell_of_row w T 0 _ _ _ h
theorem IsFc.c1 {T : Nat} {v0 v1 : Value} {w : World} (h : IsFc T v0 v1 w) : w.cell? ⟨T, 1, none⟩ = some v1 := cell_of_row w T 1 _ _ _ h
theorem IsFc.fr {T : Nat} {v0 v1 : Value} {w : World} (h : IsFc T v0 v1 w) (i : Nat) : w.frozen? ⟨T, i, none⟩ = false := frozen_of_row w T i _ _ h
theorem IsFc.lt {T : Nat} {v0 v1 : Value} {w : World} (h : IsFc T v0 v1 w) : T < w.heap.size := (Array.getElem?_eq_some_iff.1 h).1
theorem IsFc.below {T : Nat} {v0 v1 : Value} {w w' : World} (h : IsFc T v0 v1 w) (hb : Below w.heap.size w w') : IsFc T v0 v1 w' := (hb.block T h.lt).trans h
theorem IsFc.grown {T : Nat} {v0 v1 : Value} {w w' : World} {row : Option Nat} (h : IsFc T v0 v1 w) (hg : w.grownBy w' row) (hne : some T ≠ row) : IsFc T v0 v1 w' := (hg.block T h.lt hne).trans h
theorem IsFc.set1 {T : Nat} {v0 v1 : Value} {w : World} (h : IsFc T v0 v1 w) (u : Value) : IsFc T v0 u (w.setCell ⟨T, 1, none⟩ u) := set_block h u
theorem mayA_one (x : AtomL) : mayP [] [⟨x, []⟩] = mayA x := by
  unfold mayP mayR
  simp
theorem atomOk27 {x : AtomL} (h : nA x ∧ wA x ≤ 27262976) : AtomOk x ∧ AtomSz x ∧ (atomT x).length ≤ 140737488355328 ∧ ProgOk [] [⟨x, []⟩] ∧ x.a.length < 1000000000 := by
  have h1 := wA_len x
  have h2 := lenT_atom x h.1
  refine ⟨atomOk_of h.1 (by omega) (by omega), atomSz_of (by omega) (by omega), by omega, progOk_of ⟨fun d hd => (by cases hd), fun r hr => ?_⟩ ?_, by omega⟩
  · rw [List.mem_singleton.1 hr]
    exact ⟨h.1, fun l hl => (by cases hl)⟩
  · have : wP [] [⟨x, []⟩] = wA x + 8 := by simp [wP, wR]
    have h3 : wA x ≤ 27262976 := h.2
    omega

set_option maxRecDepth 100000 in
set_option maxHeartbeats 16000000 in
theorem patoms_calls (A : Option Addr) (n c : Nat) (x : AtomL) (w : World) (hn : n = x.a.length) (hc : n ≤ c) (hT : TermsRd w A x.a) (hw27 : nA x ∧ wA x ≤ 27262976) (hE : ErrW w) (hW : TabW w) :
    Calls Tryz.prog 9 #[.agg #[.string (bs x.p), .slice A n c]] w fun e w' => e = .returned (.bool true) ∧ Below w.heap.size w w' := by
  obtain ⟨oOk, oSz, oLn, oPr, oNn⟩ := atomOk27 hw27
  obtain ⟨i0, hi, hz0, hz1, hz2⟩ := info_parts val_info
  have hb0 := (Below.refl w.heap.size w).alloc (Nat.le_refl _) (.cells #[.string (bs x.p), .slice A n c] 25)
  have hnw := heap_alloc_new w (.cells #[.string (bs x.p), .slice A n c] 25)
  have HB0 := Lib.hid hb0
  have HNW := Lib.hid hnw
  have HE := Lib.hid (hE.below hb0)
  have HW := Lib.hid (hW.below hb0)
  have HT := Lib.hid (hT.below hb0)
  have HN := Lib.hid hn
  have hlt : w.heap.size < (w.alloc (.cells #[.string (bs x.p), .slice A n c] 25)).heap.size := by simp
  have HLT := Lib.hid hlt
  have HMY := Lib.hid (fun (W : World) (h : TermsRd W A x.a) => (show Calls Tryz.prog 18 #[.agg #[.slice none 0 0, .slice (some ⟨W.heap.size, 0, none⟩) 1 1]] (W.alloc (.cells #[.string (bs x.p), .slice A n c, .slice none 0 0] 50)) (fun e w' => e = .returned (.bool (mayA x)) ∧ Below W.heap.size W w') from by
    have hbx := (Below.refl W.heap.size W).alloc (Nat.le_refl _) (.cells #[.string (bs x.p), .slice A n c, .slice none 0 0] 50)
    have hnx := heap_alloc_new W (.cells #[.string (bs x.p), .slice A n c, .slice none 0 0] 50)
    have h := p7May none (some ⟨W.heap.size, 0, none⟩) 0 0 1 1 [] [⟨x, []⟩] (W.alloc (.cells #[.string (bs x.p), .slice A n c, .slice none 0 0] 50)) ⟨rfl, rfl, fun j t hj => by simp at hj, fun j t hj => by
      match j, hj with
      | 0, hj =>
        simp only [List.getElem?_cons_zero, Option.some.injEq] at hj
        subst hj
        exact ⟨_, rfl, ⟨A, n, c, hn, hc, cell_of_row _ _ 0 _ _ _ hnx, cell_of_row _ _ 1 _ _ _ hnx, h.below hbx⟩, none, 0, 0, rfl, Nat.le_refl _, cell_of_row _ _ 2 _ _ _ hnx, fun j t hj => by simp at hj⟩
      | j + 1, hj => simp at hj⟩ oPr
    rw [mayA_one] at h
    refine h.mono ?_
    rintro e w' ⟨rfl, hb⟩
    exact ⟨rfl, hbx.trans (hb.mono hbx.size)⟩))
  clear hb0 hnw hE hW hlt
  cases hmay : mayA x with
  | false =>
    have HMAY := Lib.hid hmay
    clear hmay hn hc hT hw27 oOk oSz oLn oPr oNn
    go_enter Tryz.func9, Tryz.ntmps9
    go_wp2_with (first
      | (go_at_call 14; ((with_reducible refine (shown7_calls _ HE.out HW.out).mono ?_); rintro e w1 ⟨rfl, hb1⟩; have HB1 := Lib.hid (HB0.out.trans (hb1.mono HB0.out.size)); have HT1 := Lib.hid (HT.out.below hb1); have HN1 := Lib.hid ((hb1.block w.heap.size HLT.out).trans HNW.out); have p0 := cell_of_row _ _ 0 _ _ _ HN1.out; have p1 := cell_of_row _ _ 1 _ _ _ HN1.out; clear hb1))
      | (go_at_call 18; ((with_reducible refine (HMY.out w1 HT1.out).mono ?_); rw [HMAY.out]; rintro e w2 ⟨rfl, hb2⟩; have HB2 := Lib.hid (HB1.out.trans (hb2.mono HB1.out.size)); clear hb2)))
    go_ret
    exact ⟨rfl, HB2.out⟩
  | true =>
    have HMAY := Lib.hid hmay
    obtain ⟨S, hS⟩ : ∃ S, bs (atomT x) = S := ⟨_, rfl⟩
    have hSz : S.size = (atomT x).length := by rw [← hS, bs_size]
    have HAT := Lib.hid (fun (W : World) (h : TermsRd W A x.a) (hw : TabW W) => (show Calls Tryz.prog 26 #[.agg #[.string (bs x.p), .slice A n c]] W (fun e w' => e = .returned (.string S) ∧ Below W.heap.size W w') from by rw [← hS]; exact prAtom_calls A n c x W hn h oOk oLn hw))
    have hpos := (mayA_parts hmay).2.2
    have hn6 := (mayA_parts hmay).2.1
    have hnn6 : n ≤ 6 := by omega
    have HVX := Lib.hid (show ∀ t ∈ x.a, t.v = false → t.x = [] from fun t ht hv => by
      have h1 := hpos t ht
      unfold mayT at h1
      rw [hv] at h1
      simp at h1
      exact h1.1)
    have HFC := Lib.hid (fun (Ao : Option Addr) (co : Nat) (W : World) (h : ValsRd W Ao x.a) (hw : TabW W) => (show Calls Tryz.prog 30 #[.agg #[.string (bs x.p), .slice Ao n co]] W (fun e w' => e = .returned (.string S) ∧ Below W.heap.size W w') from by rw [← hS]; exact prFact_calls Ao n co x.p x.a W hn h oOk.2 (by omega) oLn hw))
    have HSM := Lib.hid (fun (A2 : Option Addr) (c2 : Nat) (W : World) (h1 : TermsRd W A x.a) (h2 : TermsRd W A2 x.a) => smAtom_calls x.p x.a A A2 n c c2 W hn (by omega) h1 h2)
    have hss : (S.toList == S.toList) = true := by simp
    have hfit : fitA x := fun t ht => by
      have := hw27.1 t ht
      unfold nOk at this
      unfold fitT
      omega
    have HSZ := Lib.hid hSz
    have HPA : Hid (∀ (W : World), ErrW W → Calls Tryz.prog 11 #[.string S] W (fun e w' => Below W.heap.size W w' ∧ ∃ (P5 : ByteArray) (A5 : Option Addr) (n5 c5 : Nat) (at5 k5 : Int), e = .returned (.tuple #[.agg #[.string P5, .slice A5 n5 c5], .int .i64 at5, .int .i64 k5]) ∧ (S.size ≤ 60000 → P5 = bs x.p ∧ n5 = n ∧ at5 = 0 ∧ k5 = 0 ∧ TermsRd w' A5 x.a))) := Lib.hid (fun W hE => by
      have hmx : S.size ≤ 9223372036854775807 := by omega
      refine (patom_calls S W hmx hE).mono ?_
      rintro e w' ⟨hb, h⟩
      refine ⟨hb, ?_⟩
      rw [← hS, bs_data] at h
      by_cases h6 : S.size ≤ 60000
      · have hpl : atomL (atomT x) = .ok x := atom_parse hmay hfit (by omega)
        rw [hpl] at h
        obtain ⟨v, rfl, ht⟩ := h
        obtain ⟨A5, c5, rfl⟩ := o_slice ht
        obtain ⟨_, _, k3⟩ := terms_at_rd ht
        exact ⟨_, A5, _, c5, 0, 0, rfl, fun _ => ⟨rfl, hn.symm, rfl, rfl, k3⟩⟩
      · cases hq : atomL (atomT x) with
        | bad a k =>
          rw [hq] at h
          exact ⟨_, _, _, _, _, _, h, fun h7 => absurd h7 h6⟩
        | ok y =>
          rw [hq] at h
          obtain ⟨v, rfl, ht⟩ := h
          obtain ⟨A5, c5, rfl⟩ := o_slice ht
          exact ⟨_, A5, _, c5, 0, 0, rfl, fun h7 => absurd h7 h6⟩)
    clear hmay hn hc hT hw27 oOk oSz oLn oPr hS hpos hfit hSz
    go_enter Tryz.func9, Tryz.ntmps9
    go_wp2_with (first
      | (go_at_call 14; ((with_reducible refine (shown7_calls _ HE.out HW.out).mono ?_); rintro e w1 ⟨rfl, hb1⟩; have HB1 := Lib.hid (HB0.out.trans (hb1.mono HB0.out.size)); have HT1 := Lib.hid (HT.out.below hb1); have HE1 := Lib.hid (HE.out.below hb1); have HW1 := Lib.hid (HW.out.below hb1); have HN1 := Lib.hid ((hb1.block w.heap.size HLT.out).trans HNW.out); have p0 := cell_of_row _ _ 0 _ _ _ HN1.out; have p1 := cell_of_row _ _ 1 _ _ _ HN1.out; clear hb1))
      | (go_at_call 18; ((with_reducible refine (HMY.out w1 HT1.out).mono ?_); rw [HMAY.out]; rintro e w2 ⟨rfl, hb2⟩; have HB2 := Lib.hid (HB1.out.trans (hb2.mono HB1.out.size)); have HT2 := Lib.hid (HT1.out.below hb2); have HE2 := Lib.hid (HE1.out.below hb2); have HW2 := Lib.hid (HW1.out.below hb2); have HN2 := Lib.hid ((hb2.block w.heap.size (Array.getElem?_eq_some_iff.1 HN1.out).1).trans HN1.out); have q0 := cell_of_row _ _ 0 _ _ _ HN2.out; have q1 := cell_of_row _ _ 1 _ _ _ HN2.out; clear hb2))
      | (go_at_call 26; ((with_reducible refine (HAT.out _ HT2.out HW2.out).mono ?_); rintro e w3 ⟨rfl, hb3⟩; have HB3 := Lib.hid (HB2.out.trans (hb3.mono HB2.out.size)); have HT3 := Lib.hid (HT2.out.below hb3); have HE3 := Lib.hid (HE2.out.below hb3); have HW3 := Lib.hid (HW2.out.below hb3); have HN3 := Lib.hid ((hb3.block w.heap.size (Array.getElem?_eq_some_iff.1 HN2.out).1).trans HN2.out); have r0 := cell_of_row _ _ 0 _ _ _ HN3.out; have r1 := cell_of_row _ _ 1 _ _ _ HN3.out; clear hb3)))
    have hlt3 := (Array.getElem?_eq_some_iff.1 HN3.out).1
    have HLT3 := Lib.hid hlt3
    clear hlt3
    go_loopw [6, 7] (fun g i wr => ∃ (k : Nat) (Ao : Option Addr) (co : Nat), k ≤ n ∧ i = .int .i64 (k : Int) ∧ g = .bool ((x.a.take k).all fun t => !t.v) ∧ IsFc w3.heap.size (.string (bs x.p)) (.slice Ao k co) wr ∧ wr.ownsRow (w3.heap.size + 1) 43 3 (.slice Ao k co) k ((x.a.take k).flatMap valC) ∧ Below w3.heap.size w3 wr ∧ w3.heap.size + 1 ≤ wr.heap.size) (fun _ i _ => n + 1 - (intOf i).toNat)
    case atStart => exact ⟨0, none, 0, Nat.zero_le _, rfl, rfl, heap_alloc_new w3 _, World.ownsRow_nil _ _ _ _, (Below.refl _ _).alloc (Nat.le_refl _) _, by simp⟩
    case round =>
      obtain ⟨k, Ao, co, hk, rfl, rfl, hfc, how, hb, hsr⟩ := hrel
      have HFR := Lib.hid hfc
      have HOW := Lib.hid how
      have HB := Lib.hid hb
      have HSR := Lib.hid hsr
      have hn0 := (hb.block w.heap.size HLT3.out).trans HN3.out
      have HN4 := Lib.hid hn0
      have a0 := cell_of_row _ _ 0 _ _ _ hn0
      have a1 := cell_of_row _ _ 1 _ _ _ hn0
      by_cases hlt : k < n
      · have hd : decide ((k : Int) < (n : Int)) = true := decide_eq_true (by omega)
        obtain ⟨t, hx⟩ : ∃ t, x.a[k]? = some t := ⟨_, List.getElem?_eq_getElem (by rw [← HN.out]; exact hlt)⟩
        obtain ⟨a, rfl, hh⟩ := HT3.out k t hx
        have hh2 := hh.below hb
        have d0 := hh2.c0
        have d2 := hh2.c2
        have d3 := hh2.c3
        have d4 := hh2.c4
        have f1 := hfc.c1
        have f2 := fun o => cell_below ((Below.refl wr.heap.size wr).alloc (Nat.le_refl _) o) f1
        have a2 := fun o => cell_below ((Below.refl wr.heap.size wr).alloc (Nat.le_refl _) o) a1
        have HSN := Lib.hid (show (x.a.take (k + 1)).flatMap valC = (x.a.take k).flatMap valC ++ [.bool t.s, .string (bs t.t), .int .i64 t.n] by
          rw [List.take_add_one, List.flatMap_append, hx]
          simp [valC])
        have HGN := Lib.hid (show ((x.a.take (k + 1)).all fun t => !t.v) = (((x.a.take k).all fun t => !t.v) && !t.v) by
          rw [List.take_add_one, List.all_append, hx]
          simp)
        cases hg : (x.a.take k).all fun t => !t.v
        all_goals
          rw [hg] at HGN
          clear hb hh hh2 hx hfc how hsr hg hn0
          go_wp2_with fail
          go_region_law (refine step_append_lies _ rfl (.tmp 42) (.tmp 49) 51 rfl (w3.heap.size + 1) 43 i0 (.agg #[.bool false, .string ⟨#[]⟩, .int .i64 0]) 3 32 Tryz.underlying51 hi hz0 hz1 hz2 ?_ ?_ (.slice Ao k co) k ((x.a.take k).flatMap valC) ?_ ?_ ⟨wr.heap.size, 0, none⟩ 1 1 [.bool t.s, .string (bs t.t), .int .i64 t.n] ?_ ?_ ?_ ?_ ?_ ?_ ?_ ?_ _ rfl ?_; rfl; decide; rfl; exact (o_drew HOW.out).alloc _; rfl; rfl; exact o_cells #[.bool t.s, .string (bs t.t), .int .i64 t.n] 43; (intro u hu; simp at hu; rcases hu with rfl | rfl | rfl <;> rfl); decide; (unfold maxLen; omega); omega; (have := HSR.out; simp; omega); intro g cap w4 hown hgrow hat hlt; have hgW : wr.grownBy w4 (Value.ownBlock (.slice Ao k co)) := un_drew (grown_trans (World.grownBy_alloc wr.drew (.cells #[.bool t.s, .string (bs t.t), .int .i64 t.n] 43) (Value.ownBlock (.slice Ao k co))) hgrow); have hf4 := IsFc.grown HFR.out hgW (fun e => Nat.lt_irrefl _ (o_from HOW.out w3.heap.size e.symm)); have r1 := hf4.c1; have g1 := hf4.fr 1; have HF4 := Lib.hid hf4; have HOWN := Lib.hid hown; have HGW := Lib.hid hgW; clear hown hgrow hat hlt hgW hf4)
          all_goals
            go_wp2_with fail
            go_roundw
            case rel =>
              refine ⟨k + 1, some ⟨g, 0, none⟩, cap, hlt, by simp, by rw [HGN.out]; rfl, HF4.out.set1 _, ?_, ?_, ?_⟩
              · rw [HSN.out]
                exact o_keep HOWN.out (grown_set (World.grownBy.refl _ _) 1 _) (Nat.lt_succ_self _)
              · refine Below.setCell (p := ⟨w3.heap.size, 1, none⟩) (HB.out.grown HGW.out (by have := HSR.out; omega) (fun k hk => by have := o_from HOW.out k hk; omega)) (Nat.le_refl _) _
              · have h1 := HSR.out
                have h2 := HGW.out.size
                simp
                omega
            case measure => simp [intOf]; omega
      · have hkn : n = k := by omega
        subst hkn
        have hd : decide ((n : Int) < (n : Int)) = false := decide_eq_false (by omega)
        have hall : x.a.take n = x.a := List.take_of_length_le (by rw [← HN.out]; exact Nat.le_refl _)
        rw [hall] at how ⊢
        have HOW9 := Lib.hid how
        have HT4 := Lib.hid (HT3.out.below hb)
        have HE4 := Lib.hid (HE3.out.below hb)
        have HW4 := Lib.hid (HW3.out.below hb)
        have HB4 := Lib.hid (HB3.out.trans (hb.mono HB3.out.size))
        have hlt4 := (Array.getElem?_eq_some_iff.1 hn0).1
        have HLT4 := Lib.hid hlt4
        clear hb hlt hk hall hsr how hn0 hfc hlt4
        by_cases hbig : 60000 < S.size
        · have hd2 : decide (60000 < (S.size : Int)) = true := decide_eq_true (by omega)
          cases hg : x.a.all fun t => !t.v
          all_goals
            go_wp2_with (go_at_call 11; ((with_reducible refine (HPA.out _ HE4.out).mono ?_); rintro e w5 ⟨hb5, P5, A5, n5, c5, at5, k5, rfl, _⟩; have HB5 := Lib.hid (HB4.out.trans ((hb5.trans ((Below.refl w5.heap.size w5).alloc (Nat.le_refl _) (.cells #[.string P5, .slice A5 n5 c5] 25) |>.mono hb5.size)).mono HB4.out.size)); clear hb5))
            go_ret
            exact ⟨rfl, HB5.out⟩
        · have hd2 : decide (60000 < (S.size : Int)) = false := decide_eq_false (by omega)
          have hs6 : S.size ≤ 60000 := by omega
          have HS6 := Lib.hid hs6
          clear hbig hs6
          cases hg : x.a.all fun t => !t.v with
          | false =>
            clear hg
            go_wp2_with (first
              | (go_at_call 11; ((with_reducible refine (HPA.out _ HE4.out).mono ?_); rintro e w5 ⟨hb5, P5, A5, n5, c5, at5, k5, rfl, hok⟩; obtain ⟨e1, e2, e3, e4, htr⟩ := hok HS6.out; subst e1; subst e2; subst e3; subst e4; have hbx := (Below.refl w5.heap.size w5).alloc (Nat.le_refl _) (.cells #[.string (bs x.p), .slice A5 n5 c5] 25); have HB5 := Lib.hid (HB4.out.trans ((hb5.trans (hbx.mono hb5.size)).mono HB4.out.size)); have HT5 := Lib.hid ((HT4.out.below hb5).below hbx); have HU5 := Lib.hid (htr.below hbx); have hn5 := (hbx.block w.heap.size (Nat.lt_of_lt_of_le HLT4.out hb5.size)).trans ((hb5.block w.heap.size HLT4.out).trans HN4.out); have v0 := cell_of_row _ _ 0 _ _ _ hn5; have v1 := cell_of_row _ _ 1 _ _ _ hn5; clear hb5 hbx htr hn5 hok))
              | (go_at_call 13; ((with_reducible refine (HSM.out _ _ _ HT5.out HU5.out).mono ?_); rintro e w6 ⟨rfl, hb6⟩; have HB6 := Lib.hid (HB5.out.trans (hb6.mono HB5.out.size)); clear hb6)))
            go_ret
            exact ⟨rfl, HB6.out⟩
          | true =>
            have HVR := Lib.hid (vals_rd HOW9.out HN.out (fun t ht => by
              have h1 := List.all_eq_true.1 hg t ht
              have h2 : t.v = false := by simpa using h1
              exact ⟨h2, HVX.out t ht h2⟩))
            clear hg
            go_wp2_with (first
              | (go_at_call 11; ((with_reducible refine (HPA.out _ HE4.out).mono ?_); rintro e w5 ⟨hb5, P5, A5, n5, c5, at5, k5, rfl, hok⟩; obtain ⟨e1, e2, e3, e4, htr⟩ := hok HS6.out; subst e1; subst e2; subst e3; subst e4; have hbx := (Below.refl w5.heap.size w5).alloc (Nat.le_refl _) (.cells #[.string (bs x.p), .slice A5 n5 c5] 25); have HB5 := Lib.hid (HB4.out.trans ((hb5.trans (hbx.mono hb5.size)).mono HB4.out.size)); have HT5 := Lib.hid ((HT4.out.below hb5).below hbx); have HU5 := Lib.hid (htr.below hbx); have HW5 := Lib.hid ((HW4.out.below hb5).below hbx); have HV5 := Lib.hid ((HVR.out.below hb5).below hbx); have HF5 := Lib.hid ((HFR.out.below hb5).below hbx); have hn5 := (hbx.block w.heap.size (Nat.lt_of_lt_of_le HLT4.out hb5.size)).trans ((hb5.block w.heap.size HLT4.out).trans HN4.out); have v0 := cell_of_row _ _ 0 _ _ _ hn5; have v1 := cell_of_row _ _ 1 _ _ _ hn5; clear hb5 hbx htr hn5 hok))
              | (go_at_call 13; ((with_reducible refine (HSM.out _ _ _ HT5.out HU5.out).mono ?_); rintro e w6 ⟨rfl, hb6⟩; have HB6 := Lib.hid (HB5.out.trans (hb6.mono HB5.out.size)); have HV6 := Lib.hid (HV5.out.below hb6); have HW6 := Lib.hid (HW5.out.below hb6); have hf6 := HF5.out.below hb6; have u0 := hf6.c0; have u1 := hf6.c1; clear hb6 hf6))
              | (go_at_call 30; ((with_reducible refine (HFC.out _ _ _ HV6.out HW6.out).mono ?_); rintro e w7 ⟨rfl, hb7⟩; have HB7 := Lib.hid (HB6.out.trans (hb7.mono HB6.out.size)); clear hb7)))
            go_ret
            exact ⟨rfl, HB7.out⟩
end Go.Proofs.YtminbdcabacfbaaGreatDoor.V
