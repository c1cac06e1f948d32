/- lambrequinlaw05.TokenScans. -/
import Derived.Test.YtdfjhhhbkgelaaaGreatDoorSame
import Derived.Test.YtdfjhhhbkgelaaaGreatDoorR5s
namespace Go.Proofs.YtdfjhhhbkgelaaaGreatDoor.V
set_option linter.unusedVariables false
set_option linter.unusedSimpArgs false
open Go.RowKit

theorem rscan_yes {L : List TP'} (n : Nat) (hn : n = L.length) (s : ByteArray) (w : World) (h : scanL s.data.toList = .ok L) :
    Calls Tryz.prog 12 #[.string s] w fun e w' => Below w.heap.size w w' ∧ ∃ A c, e = .returned (.tuple #[.slice A n c, .int .i64 0, .int .i64 0]) ∧ w'.ownsRow w.heap.size 35 5 (.slice A n c) n (tokCells L) ∧ n ≤ 65536 := by
  subst hn
  refine (rscan_calls s w).mono ?_
  rintro e w' ⟨hb, hp⟩
  rw [h] at hp
  obtain ⟨v, rfl, ho, h0, hl⟩ := hp
  obtain ⟨A, c, rfl⟩ := o_slice ho
  exact ⟨hb, A, c, rfl, ho, hl⟩
theorem rscan_no {a n : Nat} (s : ByteArray) (w : World) (h : scanL s.data.toList = .bad a n) :
    Calls Tryz.prog 12 #[.string s] w fun e w' => Below w.heap.size w w' ∧ e = .returned (.tuple #[.slice none 0 0, .int .i64 (a : Int), .int .i64 (n : Int)]) := by
  refine (rscan_calls s w).mono ?_
  rintro e w' ⟨hb, hp⟩
  rw [h] at hp
  exact ⟨hb, hp⟩
theorem sameG_self (L : List GT) : SameG true L L := by
  intro j t u ht hu
  rw [ht] at hu
  cases hu
  exact ⟨rfl, rfl, rfl, rfl, fun _ => rfl⟩
theorem toks_none (w : World) (A : Option Addr) : ToksAt w A [] := fun j t h => by simp at h

set_option maxRecDepth 100000 in
set_option maxHeartbeats 16000000 in
theorem scans_calls (s : ByteArray) (w : World) (hs : s.size ≤ 1048576) (hE : ErrW w) (hw : TabW w) :
    Calls Tryz.prog 3 #[.string s] w fun e w' => e = .returned (.bool true) ∧ Below w.heap.size w w' := by
  have HE := Lib.hid hE
  have HW := Lib.hid hw
  clear hE hw
  have hs9 : s.size ≤ 9223372036854775807 := by omega
  cases hp : scanL s.data.toList with
  | bad a m =>
    have hmm : ((m : Int) == (m : Int)) = true := by simp
    have haa : ((a : Int) == (a : Int)) = true := by simp
    have HP := Lib.hid hp
    have HSC := Lib.hid (fun (W : World) => same5_calls true none none 0 0 0 [] [] W rfl rfl (by decide) (toks_none W none) (toks_none W none) (sameG_self []))
    clear hp
    go_enter Tryz.func3, Tryz.ntmps3
    go_wp2_with (first
      | (go_at_call 10; ((with_reducible refine (shown5_calls _ HE.out HW.out).mono ?_); rintro e w1 ⟨rfl, hb1⟩; have HB1 := Lib.hid hb1; have HE1 := Lib.hid (HE.out.below hb1); clear hb1))
      | (go_at_call 11; ((with_reducible refine (scan_no s _ hs9 HE1.out HP.out).mono ?_); rintro e w2 ⟨hb2, rfl⟩; have HB2 := Lib.hid (HB1.out.trans (hb2.mono HB1.out.size)); clear hb2))
      | (go_at_call 12; ((with_reducible refine (rscan_no s _ HP.out).mono ?_); rintro e w3 ⟨hb3, rfl⟩; have HB3 := Lib.hid (HB2.out.trans (hb3.mono HB2.out.size)); clear hb3))
      | (go_at_call 13; ((with_reducible refine (HSC.out _).mono ?_); rintro e w4 ⟨rfl, hb4⟩; have HB4 := Lib.hid (HB3.out.trans (hb4.mono HB3.out.size)); clear hb4)))
    go_ret
    exact ⟨rfl, HB4.out⟩
  | ok L =>
    obtain ⟨n, hn⟩ : ∃ n, n = L.length := ⟨_, rfl⟩
    have HPY := Lib.hid (fun (W : World) (hE : ErrW W) => scan_yes n hn s W hs9 hE hp)
    have HPR := Lib.hid (fun (W : World) => rscan_yes n hn s W hp)
    have HSC := Lib.hid (fun (W : World) (A B : Option Addr) (c d : Nat) (hn2 : n ≤ 9223372036854775806) (h1 : ToksAt W A (L.map gtOf)) (h2 : ToksAt W B (L.map gtOf)) => same5_calls true A B n c d _ _ W (by rw [List.length_map]; exact hn) (by rw [List.length_map]; exact hn) hn2 h1 h2 (sameG_self _))
    have HN := Lib.hid hn
    clear hp hn
    go_enter Tryz.func3, Tryz.ntmps3
    go_wp2_with (first
      | (go_at_call 10; ((with_reducible refine (shown5_calls _ HE.out HW.out).mono ?_); rintro e w1 ⟨rfl, hb1⟩; have HB1 := Lib.hid hb1; have HE1 := Lib.hid (HE.out.below hb1); clear hb1))
      | (go_at_call 11; ((with_reducible refine (HPY.out _ HE1.out).mono ?_); rintro e w2 ⟨hb2, A, c, rfl, ho, hn6⟩; have HB2 := Lib.hid (HB1.out.trans (hb2.mono HB1.out.size)); have HT2 := Lib.hid (toks_row ho HN.out); have HN6 := Lib.hid (show n ≤ 9223372036854775806 from by omega); clear hb2 ho hn6))
      | (go_at_call 12; ((with_reducible refine (HPR.out _).mono ?_); rintro e w3 ⟨hb3, A', c', rfl, ho, _⟩; have HB3 := Lib.hid (HB2.out.trans (hb3.mono HB2.out.size)); have HT3 := Lib.hid (HT2.out.below hb3); have HU3 := Lib.hid (toks_row ho HN.out); clear hb3 ho))
      | (go_at_call 13; ((with_reducible refine (HSC.out _ _ _ _ _ HN6.out HT3.out HU3.out).mono ?_); rintro e w4 ⟨rfl, hb4⟩; have HB4 := Lib.hid (HB3.out.trans (hb4.mono HB3.out.size)); clear hb4)))
    go_ret
    exact ⟨rfl, HB4.out⟩
end Go.Proofs.YtdfjhhhbkgelaaaGreatDoor.V
