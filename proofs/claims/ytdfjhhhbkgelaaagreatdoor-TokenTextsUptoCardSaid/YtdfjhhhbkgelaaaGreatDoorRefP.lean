/- The document's Plain. Printed by genrefp.py. -/
import Derived.Test.YtdfjhhhbkgelaaaGreatDoorPlain
import Derived.Test.YtdfjhhhbkgelaaaGreatDoorBuild
namespace Go.Proofs.YtdfjhhhbkgelaaaGreatDoor.V
set_option linter.unusedVariables false
set_option linter.unusedSimpArgs false
open Go.RowKit

theorem plain_first_no {s : ByteArray} (hp : 0 < s.size) (h : smallI ((s[0]'hp).toNat : Int) = false) : plainL s.data.toList = false := by
  have e : s.data.toList[0]'(by simpa using hp) = s[0] := by rw [ByteArray.getElem_eq_getElem_data]; simp
  cases hl : s.data.toList with
  | nil => rfl
  | cons c r =>
    have : c = s[0] := by rw [← e]; simp [hl]
    rw [← this] at h
    simp only [plainL, h, Bool.and_false, Bool.false_and]
theorem head_eq {s : ByteArray} (hp : 0 < s.size) : s.data.toList.headD 0 = s[0] := by
  have e : s.data.toList[0]'(by simpa using hp) = s[0] := by rw [ByteArray.getElem_eq_getElem_data]; simp
  cases hl : s.data.toList with
  | nil =>
    have h2 : s.data.toList.length = s.size := by simp
    rw [hl, List.length_nil] at h2
    omega
  | cons c r =>
    rw [← e]
    simp [hl]

set_option maxRecDepth 100000 in
set_option maxHeartbeats 8000000 in
theorem refPlain_calls (s : ByteArray) (w : World) (hs : s.size ≤ 1048576) : Calls Tryz.prog 23 #[.string s] w fun e w' => e = .returned (.bool (plainL s.data.toList)) ∧ Below w.heap.size w w' := by
  have hmx : s.size ≤ 9223372036854775807 := by omega
  by_cases h0 : s.size = 0
  · have h0d : ((s.size : Int) == 0) = true := by rw [h0]; rfl
    have HP := Lib.hid (show plainL s.data.toList = false by
      have : s.data.toList = [] := by rw [← List.length_eq_zero_iff]; simpa using h0
      rw [this]; rfl)
    clear h0
    go_enter Tryz.func23, Tryz.ntmps23
    go_wp2_with fail
    go_ret
    exact ⟨by rw [HP.out]; rfl, Below.refl _ _⟩
  · have h0d : ((s.size : Int) == 0) = false := by rw [beq_eq_false_iff_ne]; omega
    by_cases h1 : s.toList = [110, 111, 116]
    · have h1d : (s.toList == [110, 111, 116]) = true := by rw [h1]; rfl
      have HP := Lib.hid (show plainL s.data.toList = false by
        rw [← ByteArray.toList_eq, h1]; rfl)
      clear h0 h1
      go_enter Tryz.func23, Tryz.ntmps23
      go_wp2_with fail
      go_ret
      exact ⟨by rw [HP.out]; rfl, Below.refl _ _⟩
    · have h1d : (s.toList == [110, 111, 116]) = false := by simpa using h1
      have HN := Lib.hid (show (s.data.toList == [110, 111, 116]) = false by rw [← ByteArray.toList_eq]; exact h1d)
      have hp : 0 < s.size := by omega
      clear h0 h1
      go_enter Tryz.func23, Tryz.ntmps23
      go_wp2_with fail
      clear h0d h1d
      go_loopw [3] (fun i wr => ∃ k : Nat, k ≤ s.size ∧ i = .int .i64 k ∧ (0 < k → smallI ((s[0]'hp).toNat : Int) = true) ∧ Upto s k ∧ wr = w) (fun i _ => s.size - (intOf i).toNat)
      case atStart => exact ⟨0, by omega, rfl, fun h => absurd h (by omega), rfl, rfl⟩
      case round =>
        obtain ⟨k, hk, rfl, hf, hu, rfl⟩ := hrel
        have HF := Lib.hid hf
        have HU := Lib.hid hu
        clear hf hu
        by_cases hlt : k < s.size
        · have hd : decide ((k : Int) < (s.size : Int)) = true := decide_eq_true (by omega)
          obtain ⟨c, hc⟩ : ∃ c : Int, ((s[k]'hlt).toNat : Int) = c := ⟨_, rfl⟩
          have HC := Lib.hid hc
          have hc0 : 0 ≤ c := by omega
          have hcb : 48 > c ∨ (48 ≤ c ∧ c ≤ 57) ∨ (58 ≤ c ∧ c ≤ 64) ∨ (65 ≤ c ∧ c ≤ 90) ∨ (91 ≤ c ∧ c ≤ 94) ∨ c = 95 ∨ c = 96 ∨ (97 ≤ c ∧ c ≤ 122) ∨ 122 < c := by omega
          by_cases hk0 : k = 0
          · have hk0d : (((k : Nat) : Int) == 0) = true := by rw [hk0]; rfl
            rcases hcb with hcb | hcb | hcb | hcb | hcb | hcb | hcb | hcb | hcb
            · have g97 : decide ((97 : Int) ≤ c) = false := decide_eq_false (by omega)
              have g122 : decide (c ≤ 122) = true := decide_eq_true (by omega)
              have g65 : decide ((65 : Int) ≤ c) = false := decide_eq_false (by omega)
              have g90 : decide (c ≤ 90) = true := decide_eq_true (by omega)
              have g48 : decide ((48 : Int) ≤ c) = false := decide_eq_false (by omega)
              have g57 : decide (c ≤ 57) = true := decide_eq_true (by omega)
              have g95 : (c == 95) = false := by rw [beq_eq_false_iff_ne]; omega
              have HR := Lib.hid (show plainL s.data.toList = false from plain_first_no hp (by subst hk0; rw [HC.out]; simp only [smallI, Bool.and_eq_false_iff, decide_eq_false_iff_not]; omega))
              clear hcb hk0
              rw [← hc] at g97 g122 g65 g90 g48 g57 g95
              clear hc hc0
              go_wp2_with fail
              go_ret
              exact ⟨by rw [HR.out]; rfl, Below.refl _ _⟩
            · have g97 : decide ((97 : Int) ≤ c) = false := decide_eq_false (by omega)
              have g122 : decide (c ≤ 122) = true := decide_eq_true (by omega)
              have g65 : decide ((65 : Int) ≤ c) = false := decide_eq_false (by omega)
              have g90 : decide (c ≤ 90) = true := decide_eq_true (by omega)
              have g48 : decide ((48 : Int) ≤ c) = true := decide_eq_true (by omega)
              have g57 : decide (c ≤ 57) = true := decide_eq_true (by omega)
              have g95 : (c == 95) = false := by rw [beq_eq_false_iff_ne]; omega
              have HR := Lib.hid (show plainL s.data.toList = false from plain_first_no hp (by subst hk0; rw [HC.out]; simp only [smallI, Bool.and_eq_false_iff, decide_eq_false_iff_not]; omega))
              clear hcb hk0
              rw [← hc] at g97 g122 g65 g90 g48 g57 g95
              clear hc hc0
              go_wp2_with fail
              go_ret
              exact ⟨by rw [HR.out]; rfl, Below.refl _ _⟩
            · have g97 : decide ((97 : Int) ≤ c) = false := decide_eq_false (by omega)
              have g122 : decide (c ≤ 122) = true := decide_eq_true (by omega)
              have g65 : decide ((65 : Int) ≤ c) = false := decide_eq_false (by omega)
              have g90 : decide (c ≤ 90) = true := decide_eq_true (by omega)
              have g48 : decide ((48 : Int) ≤ c) = true := decide_eq_true (by omega)
              have g57 : decide (c ≤ 57) = false := decide_eq_false (by omega)
              have g95 : (c == 95) = false := by rw [beq_eq_false_iff_ne]; omega
              have HR := Lib.hid (show plainL s.data.toList = false from plain_first_no hp (by subst hk0; rw [HC.out]; simp only [smallI, Bool.and_eq_false_iff, decide_eq_false_iff_not]; omega))
              clear hcb hk0
              rw [← hc] at g97 g122 g65 g90 g48 g57 g95
              clear hc hc0
              go_wp2_with fail
              go_ret
              exact ⟨by rw [HR.out]; rfl, Below.refl _ _⟩
            · have g97 : decide ((97 : Int) ≤ c) = false := decide_eq_false (by omega)
              have g122 : decide (c ≤ 122) = true := decide_eq_true (by omega)
              have g65 : decide ((65 : Int) ≤ c) = true := decide_eq_true (by omega)
              have g90 : decide (c ≤ 90) = true := decide_eq_true (by omega)
              have g48 : decide ((48 : Int) ≤ c) = true := decide_eq_true (by omega)
              have g57 : decide (c ≤ 57) = false := decide_eq_false (by omega)
              have g95 : (c == 95) = false := by rw [beq_eq_false_iff_ne]; omega
              have HR := Lib.hid (show plainL s.data.toList = false from plain_first_no hp (by subst hk0; rw [HC.out]; simp only [smallI, Bool.and_eq_false_iff, decide_eq_false_iff_not]; omega))
              clear hcb hk0
              rw [← hc] at g97 g122 g65 g90 g48 g57 g95
              clear hc hc0
              go_wp2_with fail
              go_ret
              exact ⟨by rw [HR.out]; rfl, Below.refl _ _⟩
            · have g97 : decide ((97 : Int) ≤ c) = false := decide_eq_false (by omega)
              have g122 : decide (c ≤ 122) = true := decide_eq_true (by omega)
              have g65 : decide ((65 : Int) ≤ c) = true := decide_eq_true (by omega)
              have g90 : decide (c ≤ 90) = false := decide_eq_false (by omega)
              have g48 : decide ((48 : Int) ≤ c) = true := decide_eq_true (by omega)
              have g57 : decide (c ≤ 57) = false := decide_eq_false (by omega)
              have g95 : (c == 95) = false := by rw [beq_eq_false_iff_ne]; omega
              have HR := Lib.hid (show plainL s.data.toList = false from plain_first_no hp (by subst hk0; rw [HC.out]; simp only [smallI, Bool.and_eq_false_iff, decide_eq_false_iff_not]; omega))
              clear hcb hk0
              rw [← hc] at g97 g122 g65 g90 g48 g57 g95
              clear hc hc0
              go_wp2_with fail
              go_ret
              exact ⟨by rw [HR.out]; rfl, Below.refl _ _⟩
            · have g97 : decide ((97 : Int) ≤ c) = false := decide_eq_false (by omega)
              have g122 : decide (c ≤ 122) = true := decide_eq_true (by omega)
              have g65 : decide ((65 : Int) ≤ c) = true := decide_eq_true (by omega)
              have g90 : decide (c ≤ 90) = false := decide_eq_false (by omega)
              have g48 : decide ((48 : Int) ≤ c) = true := decide_eq_true (by omega)
              have g57 : decide (c ≤ 57) = false := decide_eq_false (by omega)
              have g95 : (c == 95) = true := by simp only [beq_iff_eq]; omega
              have HR := Lib.hid (show plainL s.data.toList = false from plain_first_no hp (by subst hk0; rw [HC.out]; simp only [smallI, Bool.and_eq_false_iff, decide_eq_false_iff_not]; omega))
              clear hcb hk0
              rw [← hc] at g97 g122 g65 g90 g48 g57 g95
              clear hc hc0
              go_wp2_with fail
              go_ret
              exact ⟨by rw [HR.out]; rfl, Below.refl _ _⟩
            · have g97 : decide ((97 : Int) ≤ c) = false := decide_eq_false (by omega)
              have g122 : decide (c ≤ 122) = true := decide_eq_true (by omega)
              have g65 : decide ((65 : Int) ≤ c) = true := decide_eq_true (by omega)
              have g90 : decide (c ≤ 90) = false := decide_eq_false (by omega)
              have g48 : decide ((48 : Int) ≤ c) = true := decide_eq_true (by omega)
              have g57 : decide (c ≤ 57) = false := decide_eq_false (by omega)
              have g95 : (c == 95) = false := by rw [beq_eq_false_iff_ne]; omega
              have HR := Lib.hid (show plainL s.data.toList = false from plain_first_no hp (by subst hk0; rw [HC.out]; simp only [smallI, Bool.and_eq_false_iff, decide_eq_false_iff_not]; omega))
              clear hcb hk0
              rw [← hc] at g97 g122 g65 g90 g48 g57 g95
              clear hc hc0
              go_wp2_with fail
              go_ret
              exact ⟨by rw [HR.out]; rfl, Below.refl _ _⟩
            · have g97 : decide ((97 : Int) ≤ c) = true := decide_eq_true (by omega)
              have g122 : decide (c ≤ 122) = true := decide_eq_true (by omega)
              have g65 : decide ((65 : Int) ≤ c) = true := decide_eq_true (by omega)
              have g90 : decide (c ≤ 90) = false := decide_eq_false (by omega)
              have g48 : decide ((48 : Int) ≤ c) = true := decide_eq_true (by omega)
              have g57 : decide (c ≤ 57) = false := decide_eq_false (by omega)
              have g95 : (c == 95) = false := by rw [beq_eq_false_iff_ne]; omega
              have HW := Lib.hid (show Upto s (k + 1) from upto_succ hlt HU.out (by rw [HC.out]; simp only [wordI, smallI, Bool.or_eq_true, Bool.and_eq_true, decide_eq_true_eq]; omega))
              have HG := Lib.hid (show 0 < k + 1 → smallI ((s[0]'hp).toNat : Int) = true from fun _ => by subst hk0; rw [HC.out]; simp only [smallI, Bool.and_eq_true, decide_eq_true_eq]; omega)
              clear hcb hk0
              rw [← hc] at g97 g122 g65 g90 g48 g57 g95
              clear hc hc0
              go_wp2_with fail
              go_roundw
              case rel => exact ⟨k + 1, by omega, by simp, HG.out, HW.out, by first | rfl | trivial⟩
              case measure =>
                show s.size - ((k : Int) + 1).toNat < s.size - (k : Int).toNat
                omega
            · have g97 : decide ((97 : Int) ≤ c) = true := decide_eq_true (by omega)
              have g122 : decide (c ≤ 122) = false := decide_eq_false (by omega)
              have g65 : decide ((65 : Int) ≤ c) = true := decide_eq_true (by omega)
              have g90 : decide (c ≤ 90) = false := decide_eq_false (by omega)
              have g48 : decide ((48 : Int) ≤ c) = true := decide_eq_true (by omega)
              have g57 : decide (c ≤ 57) = false := decide_eq_false (by omega)
              have g95 : (c == 95) = false := by rw [beq_eq_false_iff_ne]; omega
              have HR := Lib.hid (show plainL s.data.toList = false from plain_first_no hp (by subst hk0; rw [HC.out]; simp only [smallI, Bool.and_eq_false_iff, decide_eq_false_iff_not]; omega))
              clear hcb hk0
              rw [← hc] at g97 g122 g65 g90 g48 g57 g95
              clear hc hc0
              go_wp2_with fail
              go_ret
              exact ⟨by rw [HR.out]; rfl, Below.refl _ _⟩
          · have hk0d : (((k : Nat) : Int) == 0) = false := by rw [beq_eq_false_iff_ne]; omega
            rcases hcb with hcb | hcb | hcb | hcb | hcb | hcb | hcb | hcb | hcb
            · have g97 : decide ((97 : Int) ≤ c) = false := decide_eq_false (by omega)
              have g122 : decide (c ≤ 122) = true := decide_eq_true (by omega)
              have g65 : decide ((65 : Int) ≤ c) = false := decide_eq_false (by omega)
              have g90 : decide (c ≤ 90) = true := decide_eq_true (by omega)
              have g48 : decide ((48 : Int) ≤ c) = false := decide_eq_false (by omega)
              have g57 : decide (c ≤ 57) = true := decide_eq_true (by omega)
              have g95 : (c == 95) = false := by rw [beq_eq_false_iff_ne]; omega
              have HR := Lib.hid (show plainL s.data.toList = false from plain_no hlt (by rw [head_eq hp]; exact HF.out (by omega)) (by rw [HC.out]; simp only [wordI, smallI, Bool.or_eq_false_iff, Bool.and_eq_false_iff, decide_eq_false_iff_not]; omega))
              clear hcb hk0
              rw [← hc] at g97 g122 g65 g90 g48 g57 g95
              clear hc hc0
              go_wp2_with fail
              go_ret
              exact ⟨by rw [HR.out]; rfl, Below.refl _ _⟩
            · have g97 : decide ((97 : Int) ≤ c) = false := decide_eq_false (by omega)
              have g122 : decide (c ≤ 122) = true := decide_eq_true (by omega)
              have g65 : decide ((65 : Int) ≤ c) = false := decide_eq_false (by omega)
              have g90 : decide (c ≤ 90) = true := decide_eq_true (by omega)
              have g48 : decide ((48 : Int) ≤ c) = true := decide_eq_true (by omega)
              have g57 : decide (c ≤ 57) = true := decide_eq_true (by omega)
              have g95 : (c == 95) = false := by rw [beq_eq_false_iff_ne]; omega
              have HW := Lib.hid (show Upto s (k + 1) from upto_succ hlt HU.out (by rw [HC.out]; simp only [wordI, smallI, Bool.or_eq_true, Bool.and_eq_true, decide_eq_true_eq]; omega))
              have HG := Lib.hid (show 0 < k + 1 → smallI ((s[0]'hp).toNat : Int) = true from fun _ => HF.out (by omega))
              clear hcb hk0
              rw [← hc] at g97 g122 g65 g90 g48 g57 g95
              clear hc hc0
              go_wp2_with fail
              go_roundw
              case rel => exact ⟨k + 1, by omega, by simp, HG.out, HW.out, by first | rfl | trivial⟩
              case measure =>
                show s.size - ((k : Int) + 1).toNat < s.size - (k : Int).toNat
                omega
            · have g97 : decide ((97 : Int) ≤ c) = false := decide_eq_false (by omega)
              have g122 : decide (c ≤ 122) = true := decide_eq_true (by omega)
              have g65 : decide ((65 : Int) ≤ c) = false := decide_eq_false (by omega)
              have g90 : decide (c ≤ 90) = true := decide_eq_true (by omega)
              have g48 : decide ((48 : Int) ≤ c) = true := decide_eq_true (by omega)
              have g57 : decide (c ≤ 57) = false := decide_eq_false (by omega)
              have g95 : (c == 95) = false := by rw [beq_eq_false_iff_ne]; omega
              have HR := Lib.hid (show plainL s.data.toList = false from plain_no hlt (by rw [head_eq hp]; exact HF.out (by omega)) (by rw [HC.out]; simp only [wordI, smallI, Bool.or_eq_false_iff, Bool.and_eq_false_iff, decide_eq_false_iff_not]; omega))
              clear hcb hk0
              rw [← hc] at g97 g122 g65 g90 g48 g57 g95
              clear hc hc0
              go_wp2_with fail
              go_ret
              exact ⟨by rw [HR.out]; rfl, Below.refl _ _⟩
            · have g97 : decide ((97 : Int) ≤ c) = false := decide_eq_false (by omega)
              have g122 : decide (c ≤ 122) = true := decide_eq_true (by omega)
              have g65 : decide ((65 : Int) ≤ c) = true := decide_eq_true (by omega)
              have g90 : decide (c ≤ 90) = true := decide_eq_true (by omega)
              have g48 : decide ((48 : Int) ≤ c) = true := decide_eq_true (by omega)
              have g57 : decide (c ≤ 57) = false := decide_eq_false (by omega)
              have g95 : (c == 95) = false := by rw [beq_eq_false_iff_ne]; omega
              have HW := Lib.hid (show Upto s (k + 1) from upto_succ hlt HU.out (by rw [HC.out]; simp only [wordI, smallI, Bool.or_eq_true, Bool.and_eq_true, decide_eq_true_eq]; omega))
              have HG := Lib.hid (show 0 < k + 1 → smallI ((s[0]'hp).toNat : Int) = true from fun _ => HF.out (by omega))
              clear hcb hk0
              rw [← hc] at g97 g122 g65 g90 g48 g57 g95
              clear hc hc0
              go_wp2_with fail
              go_roundw
              case rel => exact ⟨k + 1, by omega, by simp, HG.out, HW.out, by first | rfl | trivial⟩
              case measure =>
                show s.size - ((k : Int) + 1).toNat < s.size - (k : Int).toNat
                omega
            · have g97 : decide ((97 : Int) ≤ c) = false := decide_eq_false (by omega)
              have g122 : decide (c ≤ 122) = true := decide_eq_true (by omega)
              have g65 : decide ((65 : Int) ≤ c) = true := decide_eq_true (by omega)
              have g90 : decide (c ≤ 90) = false := decide_eq_false (by omega)
              have g48 : decide ((48 : Int) ≤ c) = true := decide_eq_true (by omega)
              have g57 : decide (c ≤ 57) = false := decide_eq_false (by omega)
              have g95 : (c == 95) = false := by rw [beq_eq_false_iff_ne]; omega
              have HR := Lib.hid (show plainL s.data.toList = false from plain_no hlt (by rw [head_eq hp]; exact HF.out (by omega)) (by rw [HC.out]; simp only [wordI, smallI, Bool.or_eq_false_iff, Bool.and_eq_false_iff, decide_eq_false_iff_not]; omega))
              clear hcb hk0
              rw [← hc] at g97 g122 g65 g90 g48 g57 g95
              clear hc hc0
              go_wp2_with fail
              go_ret
              exact ⟨by rw [HR.out]; rfl, Below.refl _ _⟩
            · have g97 : decide ((97 : Int) ≤ c) = false := decide_eq_false (by omega)
              have g122 : decide (c ≤ 122) = true := decide_eq_true (by omega)
              have g65 : decide ((65 : Int) ≤ c) = true := decide_eq_true (by omega)
              have g90 : decide (c ≤ 90) = false := decide_eq_false (by omega)
              have g48 : decide ((48 : Int) ≤ c) = true := decide_eq_true (by omega)
              have g57 : decide (c ≤ 57) = false := decide_eq_false (by omega)
              have g95 : (c == 95) = true := by simp only [beq_iff_eq]; omega
              have HW := Lib.hid (show Upto s (k + 1) from upto_succ hlt HU.out (by rw [HC.out]; simp only [wordI, smallI, Bool.or_eq_true, Bool.and_eq_true, decide_eq_true_eq]; omega))
              have HG := Lib.hid (show 0 < k + 1 → smallI ((s[0]'hp).toNat : Int) = true from fun _ => HF.out (by omega))
              clear hcb hk0
              rw [← hc] at g97 g122 g65 g90 g48 g57 g95
              clear hc hc0
              go_wp2_with fail
              go_roundw
              case rel => exact ⟨k + 1, by omega, by simp, HG.out, HW.out, by first | rfl | trivial⟩
              case measure =>
                show s.size - ((k : Int) + 1).toNat < s.size - (k : Int).toNat
                omega
            · have g97 : decide ((97 : Int) ≤ c) = false := decide_eq_false (by omega)
              have g122 : decide (c ≤ 122) = true := decide_eq_true (by omega)
              have g65 : decide ((65 : Int) ≤ c) = true := decide_eq_true (by omega)
              have g90 : decide (c ≤ 90) = false := decide_eq_false (by omega)
              have g48 : decide ((48 : Int) ≤ c) = true := decide_eq_true (by omega)
              have g57 : decide (c ≤ 57) = false := decide_eq_false (by omega)
              have g95 : (c == 95) = false := by rw [beq_eq_false_iff_ne]; omega
              have HR := Lib.hid (show plainL s.data.toList = false from plain_no hlt (by rw [head_eq hp]; exact HF.out (by omega)) (by rw [HC.out]; simp only [wordI, smallI, Bool.or_eq_false_iff, Bool.and_eq_false_iff, decide_eq_false_iff_not]; omega))
              clear hcb hk0
              rw [← hc] at g97 g122 g65 g90 g48 g57 g95
              clear hc hc0
              go_wp2_with fail
              go_ret
              exact ⟨by rw [HR.out]; rfl, Below.refl _ _⟩
            · have g97 : decide ((97 : Int) ≤ c) = true := decide_eq_true (by omega)
              have g122 : decide (c ≤ 122) = true := decide_eq_true (by omega)
              have g65 : decide ((65 : Int) ≤ c) = true := decide_eq_true (by omega)
              have g90 : decide (c ≤ 90) = false := decide_eq_false (by omega)
              have g48 : decide ((48 : Int) ≤ c) = true := decide_eq_true (by omega)
              have g57 : decide (c ≤ 57) = false := decide_eq_false (by omega)
              have g95 : (c == 95) = false := by rw [beq_eq_false_iff_ne]; omega
              have HW := Lib.hid (show Upto s (k + 1) from upto_succ hlt HU.out (by rw [HC.out]; simp only [wordI, smallI, Bool.or_eq_true, Bool.and_eq_true, decide_eq_true_eq]; omega))
              have HG := Lib.hid (show 0 < k + 1 → smallI ((s[0]'hp).toNat : Int) = true from fun _ => HF.out (by omega))
              clear hcb hk0
              rw [← hc] at g97 g122 g65 g90 g48 g57 g95
              clear hc hc0
              go_wp2_with fail
              go_roundw
              case rel => exact ⟨k + 1, by omega, by simp, HG.out, HW.out, by first | rfl | trivial⟩
              case measure =>
                show s.size - ((k : Int) + 1).toNat < s.size - (k : Int).toNat
                omega
            · have g97 : decide ((97 : Int) ≤ c) = true := decide_eq_true (by omega)
              have g122 : decide (c ≤ 122) = false := decide_eq_false (by omega)
              have g65 : decide ((65 : Int) ≤ c) = true := decide_eq_true (by omega)
              have g90 : decide (c ≤ 90) = false := decide_eq_false (by omega)
              have g48 : decide ((48 : Int) ≤ c) = true := decide_eq_true (by omega)
              have g57 : decide (c ≤ 57) = false := decide_eq_false (by omega)
              have g95 : (c == 95) = false := by rw [beq_eq_false_iff_ne]; omega
              have HR := Lib.hid (show plainL s.data.toList = false from plain_no hlt (by rw [head_eq hp]; exact HF.out (by omega)) (by rw [HC.out]; simp only [wordI, smallI, Bool.or_eq_false_iff, Bool.and_eq_false_iff, decide_eq_false_iff_not]; omega))
              clear hcb hk0
              rw [← hc] at g97 g122 g65 g90 g48 g57 g95
              clear hc hc0
              go_wp2_with fail
              go_ret
              exact ⟨by rw [HR.out]; rfl, Below.refl _ _⟩
        · have hd : decide ((k : Int) < (s.size : Int)) = false := decide_eq_false (by omega)
          obtain rfl : k = s.size := by omega
          have HR := Lib.hid (show plainL s.data.toList = true from plain_yes HN.out hp (by rw [head_eq hp]; exact HF.out hp) HU.out)
          go_wp2_with fail
          go_ret
          exact ⟨by rw [HR.out]; rfl, Below.refl _ _⟩
end Go.Proofs.YtdfjhhhbkgelaaaGreatDoor.V
