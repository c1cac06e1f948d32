/- token.Scan of a text whose tokens are known; lambrequinlaw05.shown: the document's example. -/
import Derived.Test.YtdfjhhhbkgelaaaGreatDoorJoins
import Derived.KernelRfl
namespace Go.Proofs.YtdfjhhhbkgelaaaGreatDoor.V
set_option linter.unusedVariables false
set_option linter.unusedSimpArgs false
open Go.RowKit

theorem scanF_err : ∀ (f N : Nat) (l : List UInt8) (a e : Nat), scanF f N l = .bad a e → e ≠ 0 := by
  intro f
  induction f with
  | zero => intro N l a e h; cases h
  | succ f ih =>
    intro N l a e h
    rw [scanF] at h
    split at h
    · cases h
    · split at h
      · rename_i ho
        injection h with _ h2
        have := oneL_bad ho
        omega
      · rename_i k r ho
        cases hr : scanF f N r with
        | bad a' e' =>
          rw [hr] at h
          injection h with _ h2
          subst h2
          exact ih N r a' e' hr
        | ok L => rw [hr] at h; cases h
theorem scanL_err {s : List UInt8} {a e : Nat} (h : scanL s = .bad a e) : e ≠ 0 := by
  unfold scanL at h
  split at h
  · injection h with _ h2
    omega
  · exact scanF_err _ _ _ _ _ h
theorem scan_yes {L : List TP'} (n : Nat) (hn : n = L.length) (s : ByteArray) (w : World) (hs : s.size ≤ 9223372036854775807) (hE : ErrW w) (h : scanL s.data.toList = .ok L) :
    Calls Tryz.prog 11 #[.string s] w fun e w' => Below w.heap.size w w' ∧ ∃ A c, e = .returned (.tuple #[.slice A n c, .int .i64 0, .int .i64 0]) ∧ w'.ownsRow w.heap.size 35 5 (.slice A n c) n (tokCells L) ∧ n ≤ 65536 := by
  subst hn
  refine (scan_calls s w hs hE).mono ?_
  rintro e w' ⟨hb, hp⟩
  rw [h] at hp
  obtain ⟨v, rfl, ho, h0, hl⟩ := hp
  obtain ⟨A, c, rfl⟩ := o_slice ho
  exact ⟨hb, A, c, rfl, ho, hl⟩
theorem scan_no {a n : Nat} (s : ByteArray) (w : World) (hs : s.size ≤ 9223372036854775807) (hE : ErrW w) (h : scanL s.data.toList = .bad a n) :
    Calls Tryz.prog 11 #[.string s] w fun e w' => Below w.heap.size w w' ∧ e = .returned (.tuple #[.slice none 0 0, .int .i64 (a : Int), .int .i64 (n : Int)]) := by
  refine (scan_calls s w hs hE).mono ?_
  rintro e w' ⟨hb, hp⟩
  rw [h] at hp
  exact ⟨hb, hp⟩

def ex5 : List TP' := [(⟨1, [112], 0, false⟩, 0), (⟨4, [40], 0, false⟩, 1), (⟨2, [88], 0, false⟩, 2), (⟨4, [44], 0, false⟩, 3), (⟨3, [], 12, false⟩, 5), (⟨4, [41], 0, false⟩, 7), (⟨4, [46], 0, false⟩, 8)]
theorem ex5_scan : scanL (⟨#[112, 40, 88, 44, 32, 49, 50, 41, 46, 32, 37, 32, 120]⟩ : ByteArray).data.toList = .ok ex5 := by kernel_rfl
theorem ex5_calls (w : World) (hE : ErrW w) : Calls Tryz.prog 11 #[.string ⟨#[112, 40, 88, 44, 32, 49, 50, 41, 46, 32, 37, 32, 120]⟩] w fun e w' => Below w.heap.size w w' ∧ ∃ g c, e = .returned (.tuple #[.slice (some ⟨g, 0, none⟩) 7 c, .int .i64 0, .int .i64 0]) ∧ 2 ≤ c ∧ ToksAt w' (some ⟨g, 0, none⟩) ((ex5.take 2).map gtOf) ∧
    w'.cell? ⟨g, 1, none⟩ = some (.string ⟨#[112]⟩) ∧ w'.cell? ⟨g, 10, none⟩ = some (.int .i64 2) ∧ w'.cell? ⟨g, 22, none⟩ = some (.int .i64 12) ∧ w'.cell? ⟨g, 24, none⟩ = some (.int .i64 5) := by
  refine (scan_yes 7 rfl _ w (by decide) hE ex5_scan).mono ?_
  rintro e w' ⟨hb, A, c, rfl, ho, _⟩
  have h7 : 7 ≤ c := by
    rcases ho.2 with ⟨_, h0⟩ | ⟨g, cap, cur, hv, _, _, hnc, _⟩
    · omega
    · injection hv with _ _ hc
      omega
  have ht := toks_row ho rfl
  obtain ⟨g, rfl, hc⟩ := o_at ho (by decide)
  refine ⟨hb, g, c, rfl, by omega, ?_, hc 1 _ rfl, hc 10 _ rfl, hc 22 _ rfl, hc 24 _ rfl⟩
  intro j t hj
  refine ht j t ?_
  rw [List.getElem?_map] at hj ⊢
  by_cases h2 : j < 2
  · rw [List.getElem?_take_of_lt h2] at hj
    exact hj
  · rw [List.getElem?_take, if_neg h2] at hj
    cases hj
theorem ex5_join : joinG ((ex5.take 2).map gtOf) = [112, 32, 40, 32] := by rw [joinG_of]; decide +kernel
theorem ex5_ok : ∀ t ∈ (ex5.take 2).map gtOf, GTOk t := by
  intro t ht
  simp only [ex5, List.take, List.map, List.mem_cons, List.mem_nil_iff, or_false] at ht
  rcases ht with rfl | rfl <;> exact ⟨by decide, by decide, by decide⟩

set_option maxRecDepth 100000 in
set_option maxHeartbeats 8000000 in
theorem shown5_calls (w : World) (hE : ErrW w) (hw : TabW w) :
    Calls Tryz.prog 10 #[] w fun e w' => e = .returned (.bool true) ∧ Below w.heap.size w w' := by
  have HE := Lib.hid hE
  have HW := Lib.hid hw
  have HJ := Lib.hid (fun (W : World) (A : Option Addr) (c : Nat) (h : ToksAt W A ((ex5.take 2).map gtOf)) (hw : TabW W) => (show Calls Tryz.prog 14 #[.slice A 2 c] W (fun e w' => e = .returned (.string ⟨#[112, 32, 40, 32]⟩) ∧ Below W.heap.size W w') from by
    have h1 := join_calls A 2 c _ W rfl h ex5_ok (by rw [ex5_join]; decide) (by decide) hw
    rw [ex5_join] at h1
    exact h1))
  clear hE hw
  go_enter Tryz.func10, Tryz.ntmps10
  go_wp2_with (first
    | (go_at_call 11; ((with_reducible refine (ex5_calls _ HE.out).mono ?_); rintro e w1 ⟨hb, g, c, rfl, h2, ht, f1, f2, f3, f4⟩; have HW1 := Lib.hid (HW.out.below hb); have HB := Lib.hid hb; have HT := Lib.hid ht; clear hb ht))
    | (go_at_call 14; ((with_reducible refine (HJ.out _ _ _ HT.out HW1.out).mono ?_); rintro e w2 ⟨rfl, hb2⟩; have HB2 := Lib.hid (HB.out.trans (hb2.mono HB.out.size)); clear hb2)))
  go_ret
  exact ⟨rfl, HB2.out⟩
end Go.Proofs.YtdfjhhhbkgelaaaGreatDoor.V
