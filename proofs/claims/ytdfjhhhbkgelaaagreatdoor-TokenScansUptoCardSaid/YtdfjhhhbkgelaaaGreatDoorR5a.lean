/- The document's small functions of bytes, and its Skip. -/
import Derived.Test.YtdfjhhhbkgelaaaGreatDoorRow
namespace Go.Proofs.YtdfjhhhbkgelaaaGreatDoor.V
set_option linter.unusedVariables false
set_option linter.unusedSimpArgs false
open Go.RowKit

theorem rblank5_calls (c : Int) (w : World) : Calls Tryz.prog 39 #[.int .u8 c] w fun e w' => e = .returned (.bool (blankI c)) ∧ w = w' := by
  unfold blankI
  cases h1 : (c == 9) <;> cases h2 : (c == 10) <;> cases h3 : (c == 13) <;> cases h4 : (c == 32) <;>
  · go_enter Tryz.func39, Tryz.ntmps39
    go_wp2
    go_ret
    exact ⟨by simp, rfl⟩
theorem rsmall5_calls (c : Int) (w : World) : Calls Tryz.prog 40 #[.int .u8 c] w fun e w' => e = .returned (.bool (sml c)) ∧ w = w' := by
  unfold sml
  cases h1 : decide (97 ≤ c) <;> cases h2 : decide (c ≤ 122) <;>
  · go_enter Tryz.func40, Tryz.ntmps40
    go_wp2
    go_ret
    exact ⟨by simp, rfl⟩
theorem rbig5_calls (c : Int) (w : World) : Calls Tryz.prog 41 #[.int .u8 c] w fun e w' => e = .returned (.bool (bgI c)) ∧ w = w' := by
  unfold bgI
  cases h1 : decide (65 ≤ c) <;> cases h2 : decide (c ≤ 90) <;>
  · go_enter Tryz.func41, Tryz.ntmps41
    go_wp2
    go_ret
    exact ⟨by simp, rfl⟩
theorem rfig5_calls (c : Int) (w : World) : Calls Tryz.prog 43 #[.int .u8 c] w fun e w' => e = .returned (.bool (figI c)) ∧ w = w' := by
  unfold figI
  cases h1 : decide (48 ≤ c) <;> cases h2 : decide (c ≤ 57) <;>
  · go_enter Tryz.func43, Tryz.ntmps43
    go_wp2
    go_ret
    exact ⟨by simp, rfl⟩
theorem rword5_calls (c : Int) (w : World) : Calls Tryz.prog 42 #[.int .u8 c] w fun e w' => e = .returned (.bool (wrdI c)) ∧ w = w' := by
  unfold wrdI
  cases h1 : sml c <;> cases h2 : bgI c <;> cases h3 : figI c <;> cases h4 : (c == 95) <;>
  · go_enter Tryz.func42, Tryz.ntmps42
    go_wp2_with (first
      | (go_at_call 40; with_reducible refine (rsmall5_calls _ _).mono ?_; rintro e w' ⟨rfl, rfl⟩; rw [h1])
      | (go_at_call 41; with_reducible refine (rbig5_calls _ _).mono ?_; rintro e w' ⟨rfl, rfl⟩; rw [h2])
      | (go_at_call 43; with_reducible refine (rfig5_calls _ _).mono ?_; rintro e w' ⟨rfl, rfl⟩; rw [h3]))
    go_ret
    exact ⟨by simp, rfl⟩
theorem skipR_cons (m : Bool) (c : UInt8) (t : List UInt8) : skipR m (c :: t) = if !(m || c == 37) && !ofB blankI c then c :: t else skipR ((m || c == 37) && !(c == 10)) t := rfl
theorem byte_eq (c : UInt8) (n : Nat) (h : n < 256) : ((c.toNat : Int) == (n : Int)) = (c == UInt8.ofNat n) := by
  rw [Bool.eq_iff_iff]
  simp only [beq_iff_eq]
  constructor
  · intro e
    apply UInt8.toNat_inj.1
    rw [UInt8.toNat_ofNat']
    omega
  · intro e
    rw [e, UInt8.toNat_ofNat']
    omega

set_option maxRecDepth 100000 in
set_option maxHeartbeats 4000000 in
theorem rskip_calls (s : ByteArray) (a : Nat) (w : World) (ha : a ≤ s.size) (hs : s.size ≤ 65536) :
    Calls Tryz.prog 18 #[.string s, .int .i64 (a : Int)] w fun e w' => w = w' ∧ ∃ b : Nat, e = .returned (.int .i64 (b : Int)) ∧ a ≤ b ∧ b ≤ s.size ∧ s.data.toList.drop b = skipR false (s.data.toList.drop a) := by
  go_enter Tryz.func18, Tryz.ntmps18
  go_wp2_with fail
  go_loopw [1, 5] (fun i m wr => ∃ (k : Nat) (b : Bool), k ≤ s.size ∧ a ≤ k ∧ i = .int .i64 (k : Int) ∧ m = .bool b ∧ skipR b (s.data.toList.drop k) = skipR false (s.data.toList.drop a) ∧ w = wr) (fun i _ _ => s.size + 1 - (intOf i).toNat)
  case atStart => exact ⟨a, false, ha, Nat.le_refl _, rfl, rfl, rfl, rfl⟩
  case round =>
    obtain ⟨k, b, hk, hak, rfl, rfl, hr, rfl⟩ := hrel
    have HR := Lib.hid hr
    by_cases hlt : k < s.size
    · have hd : decide ((k : Int) < (s.size : Int)) = true := decide_eq_true (by omega)
      rw [drop_at hlt, skipR_cons] at hr
      have e37 := byte_eq (s[k]'hlt) 37 (by omega)
      have e10 := byte_eq (s[k]'hlt) 10 (by omega)
      cases h37 : (((s[k]'hlt).toNat : Int) == 37) with
      | true =>
        have hc : s[k]'hlt = 37 := beq_iff_eq.1 (e37.symm.trans h37)
        have h10 : (((s[k]'hlt).toNat : Int) == 10) = false := by rw [hc]; rfl
        have HQ := Lib.hid (show skipR true (s.data.toList.drop (k + 1)) = skipR false (s.data.toList.drop a) from by rw [← hr, hc]; simp)
        clear hr e37 e10 hc
        go_wp2_with fail
        go_roundw
        case rel => exact ⟨k + 1, true, hlt, by omega, by simp, rfl, HQ.out, trivial⟩
        case measure => simp [intOf]; omega
      | false =>
        cases b with
        | true =>
          cases h10 : (((s[k]'hlt).toNat : Int) == 10) with
          | true =>
            have HQ := Lib.hid (show skipR false (s.data.toList.drop (k + 1)) = skipR false (s.data.toList.drop a) from by rw [← hr, show (s[k] == 10) = true from e10.symm.trans h10]; simp)
            clear hr e37 e10
            go_wp2_with fail
            go_roundw
            case rel => exact ⟨k + 1, false, hlt, by omega, by simp, rfl, HQ.out, trivial⟩
            case measure => simp [intOf]; omega
          | false =>
            have HQ := Lib.hid (show skipR true (s.data.toList.drop (k + 1)) = skipR false (s.data.toList.drop a) from by rw [← hr, show (s[k] == 10) = false from e10.symm.trans h10]; simp)
            clear hr e37 e10
            go_wp2_with fail
            go_roundw
            case rel => exact ⟨k + 1, true, hlt, by omega, by simp, rfl, HQ.out, trivial⟩
            case measure => simp [intOf]; omega
        | false =>
          cases hbl : blankI ((s[k]'hlt).toNat : Int) with
          | false =>
            have HQ := Lib.hid (show s.data.toList.drop k = skipR false (s.data.toList.drop a) from by rw [← hr, show (s[k] == 37) = false from e37.symm.trans h37, show ofB blankI s[k] = false from hbl, drop_at hlt]; simp)
            clear hr e37 e10
            go_wp2_with (go_at_call 39; with_reducible refine (rblank5_calls _ _).mono ?_; rintro e w' ⟨rfl, rfl⟩; rw [hbl])
            go_ret
            exact ⟨rfl, k, rfl, hak, hk, HQ.out⟩
          | true =>
            have hq : skipR false (s.data.toList.drop (k + 1)) = skipR false (s.data.toList.drop a) := by rw [← hr, show (s[k] == 37) = false from e37.symm.trans h37, show ofB blankI s[k] = true from hbl]; simp
            have HQ := Lib.hid hq
            clear hr e37 e10 hq
            cases h10 : (((s[k]'hlt).toNat : Int) == 10) with
            | true =>
              go_wp2_with (go_at_call 39; with_reducible refine (rblank5_calls _ _).mono ?_; rintro e w' ⟨rfl, rfl⟩; rw [hbl])
              go_roundw
              case rel => exact ⟨k + 1, false, hlt, by omega, by simp, rfl, HQ.out, trivial⟩
              case measure => simp [intOf]; omega
            | false =>
              go_wp2_with (go_at_call 39; with_reducible refine (rblank5_calls _ _).mono ?_; rintro e w' ⟨rfl, rfl⟩; rw [hbl])
              go_roundw
              case rel => exact ⟨k + 1, false, hlt, by omega, by simp, rfl, HQ.out, trivial⟩
              case measure => simp [intOf]; omega
    · have hkn : k = s.size := by omega
      have hd : decide ((k : Int) < (s.size : Int)) = false := decide_eq_false (by omega)
      have HQ := Lib.hid (show s.data.toList.drop k = skipR false (s.data.toList.drop a) from by rw [← hr, drop_end (by omega)]; cases b <;> rfl)
      clear hr hlt
      go_wp2_with fail
      go_ret
      exact ⟨rfl, k, rfl, hak, hk, HQ.out⟩
end Go.Proofs.YtdfjhhhbkgelaaaGreatDoor.V
