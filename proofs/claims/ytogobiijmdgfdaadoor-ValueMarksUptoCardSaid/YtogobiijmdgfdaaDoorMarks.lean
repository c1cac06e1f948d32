/- The walk of ValueMarks: whatever the symbol's letters, it returns true. -/
import Derived.Test.YtogobiijmdgfdaaDoorShown
import Derived.Test.YtogobiijmdgfdaaDoorBox
import Derived.Test.YtogobiijmdgfdaaDoorTextLaw
import Derived.LoopN
namespace Go.Proofs.YtogobiijmdgfdaaDoor.V
set_option linter.unusedVariables false
set_option linter.unusedSimpArgs false
open Go.RowKit

set_option maxRecDepth 100000 in
set_option maxHeartbeats 8000000 in
theorem marks_walk (s : ByteArray) (w : World) (hs : s.size ≤ 1048576) (hw : TabW w) :
    Calls Tryd.prog 5 #[.string s] w fun e w' => e = .returned (.bool true) ∧ Below w.heap.size w w' := by
  have HS := Lib.hid hs
  have HW := Lib.hid hw
  clear hw hs
  go_enter Tryd.func5, Tryd.ntmps5
  go_wp2_with fail
  refine (shown_calls _ HW.out).mono ?_
  rintro e w1 ⟨rfl, hb1⟩
  have H1 := Lib.hid hb1
  have HW1 := Lib.hid (HW.out.below hb1)
  clear hb1
  go_wp2_with fail
  refine (sym_calls _ _).mono ?_
  rintro e w2 ⟨rfl, hb⟩
  have H2 := Lib.hid (below_then H1.out hb H1.out.size)
  have HW2 := Lib.hid (HW1.out.below hb)
  clear hb H1 HW1
  go_wp2_with fail
  refine (text_calls _ _ _ _ (by have := HS.out; omega) (by decide) (by decide) HW2.out).mono ?_
  rintro e w3 ⟨rfl, hb⟩
  have H3 := Lib.hid (below_then H2.out hb H2.out.size)
  clear hb H2 HW2 HW
  obtain ⟨T, hT⟩ : ∃ T, (⟨(textL true s.data.toList 0).toArray⟩ : ByteArray) = T := ⟨_, rfl⟩
  rw [hT]
  have HT := Lib.hid hT
  clear hT
  go_wp2_with fail
  refine (plain_calls _ _ (by have := HS.out; unfold maxLen; omega)).mono ?_
  rintro e w4 ⟨rfl, hb⟩
  have H4 := Lib.hid (below_then H3.out hb H3.out.size)
  clear hb H3
  cases hp : plainL s.data.toList with
  | true =>
    by_cases hl : s.size ≤ 32
    · have hT := HT.out
      have hlen : s.data.toList.length = s.size := by simp
      simp only [textL] at hT
      rw [if_pos ⟨hp, by omega⟩, of_bytes] at hT
      subst hT
      obtain ⟨c, r, h1, h2, h3⟩ := plain_head hp
      have hld : decide ((s.size : Int) ≤ 32) = true := decide_eq_true (by omega)
      have hmx : s.size ≤ 9223372036854775807 := by omega
      have hpos : 0 < s.size := by rw [← hlen, h1]; simp
      have hemp : s.toList.isEmpty = false := by
        rw [ByteArray.toList_eq, h1]
        rfl
      have h0 : s[0] = c := by
        have : s.data.toList[0]'(by rw [h1]; simp) = c := by simp [h1]
        rw [← this, ByteArray.getElem_eq_getElem_data]
        simp
      have e1 : decide ((97 : Int) ≤ (s[0].toNat : Int)) = true := decide_eq_true (by rw [h0]; omega)
      have e2 : decide ((s[0].toNat : Int) ≤ 122) = true := decide_eq_true (by rw [h0]; omega)
      clear h0 h1
      go_wp2_with fail
      go_ret
      exact ⟨rfl, H4.out⟩
    · have hmx : s.size ≤ 9223372036854775807 := by have := HS.out; omega
      have hld : decide ((s.size : Int) ≤ 32) = false := decide_eq_false (by omega)
      have hno : ¬ (plainL s.data.toList = true ∧ s.data.toList.length ≤ 32) := by simp; omega
      have HNO := Lib.hid hno
      clear hl hno
      go_wp2_with fail
      have hTl : T.data.toList = 39 :: escL s.data.toList ++ [39] := by
        rw [← HT.out]
        simp only [textL]
        rw [if_neg HNO.out]
      have hTs : T.size = (escL s.data.toList).length + 2 := by
        have : T.data.toList.length = T.size := by simp
        rw [← this, hTl]
        simp
      have hge : s.size ≤ (escL s.data.toList).length := by
        rw [escL_length]
        have : s.data.toList.length = s.size := by simp
        omega
      have hle : (escL s.data.toList).length ≤ 2097152 := by
        have h1 := cntS_le s.data.toList
        have h2 := HS.out
        rw [escL_length]
        have : s.data.toList.length = s.size := by simp
        omega
      have hget : ∀ (k : Nat) (h : k < T.size), T[k] = T.data.toList[k]'(by simpa using h) := by
        intro k h
        rw [ByteArray.getElem_eq_getElem_data]
        simp
      have hno : ∀ (k : Nat) (h : k < T.size), (((T[k]'h).toNat : Int) == 10) = false := by
        intro k h
        have h1 : T[k] ≠ 10 := by
          rw [hget]
          exact marks_no s.data.toList _ (by rw [← hTl]; exact List.getElem_mem _)
        rw [beq_eq_false_iff_ne]
        intro h2
        exact h1 (UInt8.toNat_inj.1 (by have : (10 : UInt8).toNat = 10 := rfl; omega))
      have hNO := Lib.hid hno
      have hf : ∀ h : 0 < T.size, (((T[0]'h).toNat : Int) == 39) = true := by
        intro h
        rw [hget]
        simp [hTl]
      have hz : ∀ h : T.size - 1 < T.size, (((T[T.size - 1]'h).toNat : Int) == 39) = true := by
        intro h
        have h1 : T.data.toList[T.size - 1]? = some 39 := by
          rw [hTl, hTs]
          simp
        have h2 := List.getElem?_eq_some_iff.1 h1
        rw [hget, h2.2]
        rfl
      have HF := Lib.hid (And.intro hf hz)
      clear hget hno hf hz HT
      have hTm : T.size ≤ 9223372036854775807 := by omega
      have hTn : s.size + 2 ≤ T.size := by omega
      clear hTs hTl hge hle
      go_loopw [5] (fun i wr => ∃ k : Nat, k ≤ T.size ∧ i = .int .i64 k ∧ Below w.heap.size w wr) (fun i _ => T.size - (intOf i).toNat)
      case atStart => exact ⟨0, by omega, rfl, H4.out⟩
      case round =>
        obtain ⟨k, hk, rfl, hB⟩ := hrel
        have HB := Lib.hid hB
        clear hB
        by_cases hlt : k < T.size
        · have hd : decide ((k : Int) < (T.size : Int)) = true := decide_eq_true (by omega)
          have hb := hNO.out k hlt
          go_wp2_with fail
          go_roundw
          case rel => exact ⟨k + 1, by omega, by simp, HB.out⟩
          case measure =>
            show T.size - ((k : Int) + 1).toNat < T.size - (k : Int).toNat
            omega
        · have hd : decide ((k : Int) < (T.size : Int)) = false := decide_eq_false (by omega)
          have hpos : 0 < T.size := by omega
          have hlast : T.size - 1 < T.size := by omega
          have e1 := HF.out.1 hpos
          have e2 := HF.out.2 hlast
          have e3 : decide ((s.size : Int) + 2 ≤ (T.size : Int)) = true := decide_eq_true (by omega)
          have e4 : (T.size : Int) - 1 = ((T.size - 1 : Nat) : Int) := by omega
          go_wp2_with fail
          go_ret
          exact ⟨rfl, HB.out⟩
  | false =>
    have HNO := Lib.hid (show ¬ (plainL s.data.toList = true ∧ s.data.toList.length ≤ 32) by rw [hp]; simp)
    have hmx : s.size ≤ 9223372036854775807 := by have := HS.out; omega
    go_wp2_with fail
    have hTl : T.data.toList = 39 :: escL s.data.toList ++ [39] := by
      rw [← HT.out]
      simp only [textL]
      rw [if_neg HNO.out]
    have hTs : T.size = (escL s.data.toList).length + 2 := by
      have : T.data.toList.length = T.size := by simp
      rw [← this, hTl]
      simp
    have hge : s.size ≤ (escL s.data.toList).length := by
      rw [escL_length]
      have : s.data.toList.length = s.size := by simp
      omega
    have hle : (escL s.data.toList).length ≤ 2097152 := by
      have h1 := cntS_le s.data.toList
      have h2 := HS.out
      rw [escL_length]
      have : s.data.toList.length = s.size := by simp
      omega
    have hget : ∀ (k : Nat) (h : k < T.size), T[k] = T.data.toList[k]'(by simpa using h) := by
      intro k h
      rw [ByteArray.getElem_eq_getElem_data]
      simp
    have hno : ∀ (k : Nat) (h : k < T.size), (((T[k]'h).toNat : Int) == 10) = false := by
      intro k h
      have h1 : T[k] ≠ 10 := by
        rw [hget]
        exact marks_no s.data.toList _ (by rw [← hTl]; exact List.getElem_mem _)
      rw [beq_eq_false_iff_ne]
      intro h2
      exact h1 (UInt8.toNat_inj.1 (by have : (10 : UInt8).toNat = 10 := rfl; omega))
    have hNO := Lib.hid hno
    have hf : ∀ h : 0 < T.size, (((T[0]'h).toNat : Int) == 39) = true := by
      intro h
      rw [hget]
      simp [hTl]
    have hz : ∀ h : T.size - 1 < T.size, (((T[T.size - 1]'h).toNat : Int) == 39) = true := by
      intro h
      have h1 : T.data.toList[T.size - 1]? = some 39 := by
        rw [hTl, hTs]
        simp
      have h2 := List.getElem?_eq_some_iff.1 h1
      rw [hget, h2.2]
      rfl
    have HF := Lib.hid (And.intro hf hz)
    clear hget hno hf hz HT
    have hTm : T.size ≤ 9223372036854775807 := by omega
    have hTn : s.size + 2 ≤ T.size := by omega
    clear hTs hTl hge hle
    go_loopw [5] (fun i wr => ∃ k : Nat, k ≤ T.size ∧ i = .int .i64 k ∧ Below w.heap.size w wr) (fun i _ => T.size - (intOf i).toNat)
    case atStart => exact ⟨0, by omega, rfl, H4.out⟩
    case round =>
      obtain ⟨k, hk, rfl, hB⟩ := hrel
      have HB := Lib.hid hB
      clear hB
      by_cases hlt : k < T.size
      · have hd : decide ((k : Int) < (T.size : Int)) = true := decide_eq_true (by omega)
        have hb := hNO.out k hlt
        go_wp2_with fail
        go_roundw
        case rel => exact ⟨k + 1, by omega, by simp, HB.out⟩
        case measure =>
          show T.size - ((k : Int) + 1).toNat < T.size - (k : Int).toNat
          omega
      · have hd : decide ((k : Int) < (T.size : Int)) = false := decide_eq_false (by omega)
        have hpos : 0 < T.size := by omega
        have hlast : T.size - 1 < T.size := by omega
        have e1 := HF.out.1 hpos
        have e2 := HF.out.2 hlast
        have e3 : decide ((s.size : Int) + 2 ≤ (T.size : Int)) = true := decide_eq_true (by omega)
        have e4 : (T.size : Int) - 1 = ((T.size - 1 : Nat) : Int) := by omega
        go_wp2_with fail
        go_ret
        exact ⟨rfl, HB.out⟩
end Go.Proofs.YtogobiijmdgfdaaDoor.V
