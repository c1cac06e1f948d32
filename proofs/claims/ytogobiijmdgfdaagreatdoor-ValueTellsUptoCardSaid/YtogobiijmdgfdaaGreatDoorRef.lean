/- The document's answer for values: texts, Compare, Same, Holds are what is plain. -/
import Derived.Test.YtogobiijmdgfdaaGreatDoorBox
namespace Go.Proofs.YtogobiijmdgfdaaGreatDoor.V
set_option linter.unusedVariables false
set_option linter.unusedSimpArgs false
open Go.RowKit

theorem append_lt : ∀ (p x y : List UInt8), (p ++ x < p ++ y) ↔ x < y := by
  intro p x y
  induction p with
  | nil => exact Iff.rfl
  | cons c p ih =>
    rw [List.cons_append, List.cons_append, List.cons_lt_cons_iff]
    constructor
    · rintro (h | ⟨_, h⟩)
      · exact absurd h (by simp)
      · exact ih.1 h
    · exact fun h => .inr ⟨rfl, ih.2 h⟩
theorem cmpS_append : ∀ (p x y : List UInt8), cmpS (p ++ x) (p ++ y) = cmpS x y := by
  intro p x y
  rcases cmpS_cases (p ++ x) (p ++ y) with ⟨h, e⟩ | ⟨h, e⟩ | ⟨h, e⟩ <;> rcases cmpS_cases x y with ⟨g, f⟩ | ⟨g, f⟩ | ⟨g, f⟩ <;> rw [e, f]
  · subst g; exact absurd h (List.lt_irrefl _)
  · exact absurd (List.lt_trans g ((append_lt _ _ _).1 h)) (List.lt_irrefl _)
  · have := List.append_cancel_left h; subst this; exact absurd g (List.lt_irrefl _)
  · have := List.append_cancel_left h; subst this; exact absurd g (List.lt_irrefl _)
  · exact absurd (List.lt_trans g ((append_lt _ _ _).1 h)) (List.lt_irrefl _)
  · subst g; exact absurd h (List.lt_irrefl _)
theorem cmpS_drop {a b : List UInt8} {k : Nat} (ha : k < a.length) (hb : k < b.length) (he : a.take k = b.take k) : cmpS a b = if a[k] < b[k] then -1 else if b[k] < a[k] then 1 else cmpS (a.drop (k + 1)) (b.drop (k + 1)) := by
  have e1 : a = a.take k ++ (a[k] :: a.drop (k + 1)) := by rw [← List.drop_eq_getElem_cons ha, List.take_append_drop]
  have e2 : b = a.take k ++ (b[k] :: b.drop (k + 1)) := by rw [he, ← List.drop_eq_getElem_cons hb, List.take_append_drop]
  have e3 : cmpS a b = cmpS (a[k] :: a.drop (k + 1)) (b[k] :: b.drop (k + 1)) := by
    conv => lhs; rw [e1, e2]
    exact cmpS_append _ _ _
  rw [e3]
  by_cases h1 : a[k] < b[k]
  · rw [if_pos h1]
    rcases cmpS_cases (a[k] :: a.drop (k + 1)) (b[k] :: b.drop (k + 1)) with ⟨h, e⟩ | ⟨h, e⟩ | ⟨h, e⟩
    · exact e
    · have := (List.cons.inj h).1
      rw [this] at h1
      exact absurd h1 (by simp)
    · rw [List.cons_lt_cons_iff] at h
      rcases h with h | ⟨h, _⟩
      · exact absurd (UInt8.lt_trans h h1) (by simp)
      · rw [h] at h1; exact absurd h1 (by simp)
  · rw [if_neg h1]
    by_cases h2 : b[k] < a[k]
    · rw [if_pos h2]
      rcases cmpS_cases (a[k] :: a.drop (k + 1)) (b[k] :: b.drop (k + 1)) with ⟨h, e⟩ | ⟨h, e⟩ | ⟨h, e⟩
      · rw [List.cons_lt_cons_iff] at h
        rcases h with h | ⟨h, _⟩
        · exact absurd h h1
        · rw [h] at h2; exact absurd h2 (by simp)
      · have := (List.cons.inj h).1
        rw [this] at h2
        exact absurd h2 (by simp)
      · exact e
    · rw [if_neg h2]
      have h3 : a[k] = b[k] := by
        apply UInt8.toNat_inj.1
        have n1 : ¬ a[k].toNat < b[k].toNat := fun h => h1 (UInt8.lt_iff_toNat_lt.2 h)
        have n2 : ¬ b[k].toNat < a[k].toNat := fun h => h2 (UInt8.lt_iff_toNat_lt.2 h)
        omega
      rw [h3]
      exact cmpS_append [b[k]] _ _
theorem cmpS_nil_l (b : List UInt8) : cmpS [] b = if b = [] then 0 else -1 := by
  cases b <;> rfl
theorem cmpS_nil_r (a : List UInt8) : cmpS a [] = if a = [] then 0 else 1 := by
  cases a <;> rfl
theorem cmpS_ends {a b : List UInt8} {k : Nat} (he : a.take k = b.take k) (hk : k = a.length ∨ k = b.length) (ha : k ≤ a.length) (hb : k ≤ b.length) : cmpS a b = if a.length < b.length then -1 else if b.length < a.length then 1 else 0 := by
  rcases hk with rfl | rfl
  · rw [List.take_length] at he
    have e : cmpS a b = cmpS [] (b.drop a.length) := by
      conv => lhs; rw [← List.take_append_drop a.length b, ← he]
      conv => lhs; lhs; rw [← List.append_nil a]
      exact cmpS_append _ _ _
    rw [e, cmpS_nil_l]
    by_cases h : a.length < b.length
    · rw [if_pos h, if_neg (by rw [List.drop_eq_nil_iff]; omega)]
    · have hh : ¬ b.length < a.length := by omega
      rw [if_neg h, if_neg hh, if_pos (by rw [List.drop_eq_nil_iff]; omega)]
  · rw [List.take_length] at he
    have e : cmpS a b = cmpS (a.drop b.length) [] := by
      conv => lhs; lhs; rw [← List.take_append_drop b.length a, he]
      conv => lhs; rhs; rw [← List.append_nil b]
      exact cmpS_append _ _ _
    rw [e, cmpS_nil_r, if_neg (by omega : ¬ a.length < b.length)]
    by_cases h : b.length < a.length
    · rw [if_pos h, if_neg (by rw [List.drop_eq_nil_iff]; omega)]
    · rw [if_neg h, if_pos (by rw [List.drop_eq_nil_iff]; omega)]

set_option maxRecDepth 100000 in
set_option maxHeartbeats 8000000 in
theorem texts_calls (a b : ByteArray) (w : World) (ha : a.size ≤ 1048576) (hb : b.size ≤ 1048576) :
    Calls Tryz.prog 26 #[.string a, .string b] w fun e w' => e = .returned (.int .i64 (cmpS a.toList b.toList)) ∧ Below w.heap.size w w' := by
  rw [ByteArray.toList_eq, ByteArray.toList_eq]
  have la : a.data.toList.length = a.size := by simp
  have lb : b.data.toList.length = b.size := by simp
  have HL := Lib.hid (And.intro la lb)
  clear la lb
  go_enter Tryz.func26, Tryz.ntmps26
  go_wp2_with fail
  have ha9 : a.size ≤ 9223372036854775807 := by omega
  have hb9 : b.size ≤ 9223372036854775807 := by omega
  go_loopw [5] (fun i wr => ∃ k : Nat, k ≤ a.size ∧ k ≤ b.size ∧ i = .int .i64 k ∧ a.data.toList.take k = b.data.toList.take k ∧ Below w.heap.size w wr) (fun i _ => a.size - (intOf i).toNat)
  case atStart => exact ⟨0, by omega, by omega, rfl, rfl, Below.refl _ _⟩
  case round =>
    obtain ⟨k, hk1, hk2, rfl, he, hB⟩ := hrel
    have HE := Lib.hid he
    have HB := Lib.hid hB
    clear he hB
    by_cases h1 : k < a.size
    · have h1d : decide ((k : Int) < (a.size : Int)) = true := decide_eq_true (by omega)
      by_cases h2 : k < b.size
      · have h2d : decide ((k : Int) < (b.size : Int)) = true := decide_eq_true (by omega)
        have HD := Lib.hid (cmpS_drop (by rw [HL.out.1]; exact h1) (by rw [HL.out.2]; exact h2) HE.out)
        have ea : a.data.toList[k]'(by rw [HL.out.1]; exact h1) = a[k] := by rw [ByteArray.getElem_eq_getElem_data]; simp
        have eb : b.data.toList[k]'(by rw [HL.out.2]; exact h2) = b[k] := by rw [ByteArray.getElem_eq_getElem_data]; simp
        by_cases h3 : a[k].toNat < b[k].toNat
        · have h3d : decide ((a[k].toNat : Int) < (b[k].toNat : Int)) = true := decide_eq_true (by omega)
          have HR := Lib.hid (show cmpS a.data.toList b.data.toList = -1 by
            rw [HD.out, ea, eb, if_pos (UInt8.lt_iff_toNat_lt.2 h3)])
          clear ea eb HD
          go_wp2_with fail
          go_region
          go_wp2_with fail
          go_ret
          have hB := HB.out
          refine ⟨by rw [HR.out]; rfl, ?_⟩
          repeat (first | with_reducible assumption | with_reducible apply Below.drew)
        · have h3d : decide ((a[k].toNat : Int) < (b[k].toNat : Int)) = false := decide_eq_false (by omega)
          by_cases h4 : b[k].toNat < a[k].toNat
          · have h4d : decide ((b[k].toNat : Int) < (a[k].toNat : Int)) = true := decide_eq_true (by omega)
            have HR := Lib.hid (show cmpS a.data.toList b.data.toList = 1 by
              rw [HD.out, ea, eb, if_neg (fun h => h3 (UInt8.lt_iff_toNat_lt.1 h)), if_pos (UInt8.lt_iff_toNat_lt.2 h4)])
            clear ea eb HD
            go_wp2_with fail
            go_region
            go_wp2_with fail
            go_region
            go_wp2_with fail
            go_ret
            have hB := HB.out
            refine ⟨by rw [HR.out]; rfl, ?_⟩
            repeat (first | with_reducible assumption | with_reducible apply Below.drew)
          · have h4d : decide ((b[k].toNat : Int) < (a[k].toNat : Int)) = false := decide_eq_false (by omega)
            have HS := Lib.hid (show a.data.toList.take (k + 1) = b.data.toList.take (k + 1) by
              rw [List.take_succ_eq_append_getElem (by rw [HL.out.1]; exact h1), List.take_succ_eq_append_getElem (by rw [HL.out.2]; exact h2), HE.out, ea, eb, UInt8.toNat_inj.1 (show a[k].toNat = b[k].toNat by omega)])
            clear ea eb HD
            go_wp2_with fail
            go_region
            go_wp2_with fail
            go_region
            go_wp2_with fail
            go_roundw
            case rel =>
              have hB := HB.out
              refine ⟨k + 1, by omega, by omega, by simp, HS.out, ?_⟩
              repeat (first | with_reducible assumption | with_reducible apply Below.drew)
            case measure =>
              show a.size - ((k : Int) + 1).toNat < a.size - (k : Int).toNat
              omega
      · have h2d : decide ((k : Int) < (b.size : Int)) = false := decide_eq_false (by omega)
        have HR := Lib.hid (show cmpS a.data.toList b.data.toList = 1 by
          rw [cmpS_ends HE.out (.inr (by rw [HL.out.2]; omega)) (by rw [HL.out.1]; omega) (by rw [HL.out.2]; omega), HL.out.1, HL.out.2, if_neg (by omega), if_pos (by omega)])
        have h5d : decide ((a.size : Int) < (b.size : Int)) = false := decide_eq_false (by omega)
        have h6d : decide ((b.size : Int) < (a.size : Int)) = true := decide_eq_true (by omega)
        go_wp2_with fail
        go_ret
        have hB := HB.out
        refine ⟨by rw [HR.out]; rfl, ?_⟩
        repeat (first | with_reducible assumption | with_reducible apply Below.drew)
    · have h1d : decide ((k : Int) < (a.size : Int)) = false := decide_eq_false (by omega)
      have HC := Lib.hid (cmpS_ends HE.out (.inl (by rw [HL.out.1]; omega)) (by rw [HL.out.1]; omega) (by rw [HL.out.2]; omega))
      by_cases h5 : a.size < b.size
      · have HR := Lib.hid (show cmpS a.data.toList b.data.toList = -1 by
          rw [HC.out, HL.out.1, HL.out.2, if_pos h5])
        have h5d : decide ((a.size : Int) < (b.size : Int)) = true := decide_eq_true (by omega)
        go_wp2_with fail
        go_ret
        have hB := HB.out
        refine ⟨by rw [HR.out]; rfl, ?_⟩
        repeat (first | with_reducible assumption | with_reducible apply Below.drew)
      · have HR := Lib.hid (show cmpS a.data.toList b.data.toList = 0 by
          have hh : ¬ b.size < a.size := by omega
          rw [HC.out, HL.out.1, HL.out.2, if_neg h5, if_neg hh])
        have h5d : decide ((a.size : Int) < (b.size : Int)) = false := decide_eq_false (by omega)
        have h6d : decide ((b.size : Int) < (a.size : Int)) = false := decide_eq_false (by omega)
        go_wp2_with fail
        go_ret
        have hB := HB.out
        refine ⟨by rw [HR.out]; rfl, ?_⟩
        repeat (first | with_reducible assumption | with_reducible apply Below.drew)
end Go.Proofs.YtogobiijmdgfdaaGreatDoor.V
