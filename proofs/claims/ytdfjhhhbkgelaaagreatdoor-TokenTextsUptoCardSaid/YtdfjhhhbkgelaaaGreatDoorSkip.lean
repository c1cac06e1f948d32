/- (*text).skip: past blanks and remarks; (*text).named: a word. -/
import Derived.Test.YtdfjhhhbkgelaaaGreatDoorByte
namespace Go.Proofs.YtdfjhhhbkgelaaaGreatDoor.V
set_option linter.unusedVariables false
set_option linter.unusedSimpArgs false
open Go.RowKit

theorem skipR_line (l : List UInt8) : skipR true l = skipR false (l.dropWhile (ofB lineI)) := by
  induction l with
  | nil => rfl
  | cons c t ih =>
    by_cases h : c = 10
    · subst h
      rw [List.dropWhile_cons_of_neg (by decide)]
      rfl
    · have h10 : (c == 10) = false := by simpa using h
      rw [List.dropWhile_cons_of_pos (by simp [ofB, lineI]; intro hc; exact h (by apply UInt8.toNat_inj.1; simpa using (by omega : c.toNat = 10))), ← ih]
      simp [skipR, h10]
theorem skipR_blank (l : List UInt8) : skipR false l = skipR false (l.dropWhile (ofB blankI)) := by
  induction l with
  | nil => rfl
  | cons c t ih =>
    cases h : ofB blankI c with
    | true =>
      rw [List.dropWhile_cons_of_pos h, ← ih]
      have h37 : (c == 37) = false := by
        cases hc : (c == 37) with
        | false => rfl
        | true =>
          rw [beq_iff_eq.1 hc] at h
          simp [ofB, blankI] at h
      rw [skipR, if_neg (by simp [h])]
      simp [h37]
    | false => rw [List.dropWhile_cons_of_neg (by simp [h])]
theorem skipR_mark (t : List UInt8) : skipR false (37 :: t) = skipR true (37 :: t) := by
  simp [skipR]
theorem skipR_stay {c : UInt8} {t : List UInt8} (h : ofB gapI c = false) : skipR false (c :: t) = c :: t := by
  rw [skipR, if_pos]
  unfold ofB gapI at h
  rw [Bool.or_eq_false_iff] at h
  have h2 : (c == 37) = false := by
    cases hc : (c == 37) with
    | false => rfl
    | true =>
      rw [beq_iff_eq.1 hc] at h
      simp at h
  have h3 : ofB blankI c = false := h.1
  simp [h2, h3]
theorem ofB_at {P : Int → Bool} {s : ByteArray} {k : Nat} (h : moreB P s k = true) (hk : k < s.size) : ofB P s[k] = true := by
  unfold moreB at h
  rw [dif_pos hk] at h
  exact h
theorem ofB_no {P : Int → Bool} {s : ByteArray} {k : Nat} (h : moreB P s k = false) (hk : k < s.size) : ofB P s[k] = false := by
  unfold moreB at h
  rw [dif_pos hk] at h
  exact h
theorem byte37 {c : UInt8} (h : ((c.toNat : Int) == 37) = true) : c = 37 := by
  apply UInt8.toNat_inj.1
  have : (c.toNat : Int) = 37 := by simpa using h
  show c.toNat = 37
  omega

theorem en_gap : ∀ args w, (callFunc 27 args).run Tryz.prog w = .ok (.enter 27 args) w := enters_of Tryz.func27 (by kernel_rfl) rfl
theorem en_line : ∀ args w, (callFunc 30 args).run Tryz.prog w = .ok (.enter 30 args) w := enters_of Tryz.func30 (by kernel_rfl) rfl
theorem en_blank : ∀ args w, (callFunc 28 args).run Tryz.prog w = .ok (.enter 28 args) w := enters_of Tryz.func28 (by kernel_rfl) rfl
theorem en_word : ∀ args w, (callFunc 55 args).run Tryz.prog w = .ok (.enter 55 args) w := enters_of Tryz.func55 (by kernel_rfl) rfl
theorem en_fig : ∀ args w, (callFunc 32 args).run Tryz.prog w = .ok (.enter 32 args) w := enters_of Tryz.func32 (by kernel_rfl) rfl
theorem en_small : ∀ args w, (callFunc 34 args).run Tryz.prog w = .ok (.enter 34 args) w := enters_of Tryz.func34 (by kernel_rfl) rfl
theorem en_big : ∀ args w, (callFunc 36 args).run Tryz.prog w = .ok (.enter 36 args) w := enters_of Tryz.func36 (by kernel_rfl) rfl

set_option maxRecDepth 100000 in
theorem skip_calls (X : Nat) (s : ByteArray) (a : Nat) (w : World) (hT : IsText X s a w) (ha : a ≤ s.size) (hs : s.size ≤ 65536) :
    Calls Tryz.prog 16 #[.pointer (some ⟨X, 0, none⟩)] w fun e w' =>
      e = .returned (.tuple #[]) ∧ ∃ b, a ≤ b ∧ b ≤ s.size ∧ s.data.toList.drop b = skipR false (s.data.toList.drop a) ∧ IsText X s b w' ∧ w.grownBy w' (some X) := by
  go_enter Tryz.func16, Tryz.ntmps16
  go_wp2_with fail
  go_loopw [] (fun wr => ∃ k : Nat, k ≤ s.size ∧ a ≤ k ∧ skipR false (s.data.toList.drop k) = skipR false (s.data.toList.drop a) ∧ IsText X s k wr ∧ w.grownBy wr (some X)) (fun wr => s.size - textAt X wr)
  case atStart => exact ⟨a, ha, Nat.le_refl _, rfl, hT, World.grownBy.refl _ _⟩
  case round =>
    obtain ⟨k, hk, hak, hr, ht, hg⟩ := hrel
    have HG := Lib.hid hg
    have HR := Lib.hid hr
    have HT := Lib.hid ht
    have c1 := ht.cell1
    have c0 := ht.cell0
    clear hg hr ht hT
    cases hm : moreB gapI s k with
    | true =>
      have hkl := (runB_more hm).1
      have HM := Lib.hid hm
      clear hm
      have hal := runB_le (P := lineI) hk
      have HA := Lib.hid hal
      have HAB := Lib.hid (runB_le (P := blankI) hal.2)
      have HK := Lib.hid (runB_le (P := blankI) hk)
      clear hal
      cases h37 : (((s[k]'hkl).toNat : Int) == 37) with
      | true =>
        have HE := Lib.hid (byte37 h37)
        have HP := Lib.hid (show k + 1 ≤ runB lineI s k by
          have h1 : moreB lineI s k = true := by unfold moreB; rw [dif_pos hkl, byte37 h37]; rfl
          have := runB_le (P := lineI) (s := s) (a := k + 1) hkl
          rw [(runB_more h1).2] at this
          exact this.1)
        have HQ := Lib.hid (show skipR false (s.data.toList.drop (runB blankI s (runB lineI s k))) = skipR false (s.data.toList.drop k) by
          rw [runB_drop, ← skipR_blank, runB_drop, ← skipR_line, drop_at hkl, byte37 h37, skipR_mark])
        go_wp2_with (first
          | (go_at_call 26; refine (more_calls en_gap tgap_calls X s k _ HT.out).mono ?_; rintro e w' ⟨rfl, rfl⟩; rw [HM.out]))
        go_region
        go_wp2_with (first
          | (go_at_call 29; ((with_reducible refine (run_calls en_line tline_calls X s k _ ?_ hk hs).mono ?_); (focus (exact HT.out)); rintro e w1 ⟨rfl, ht1, hg1⟩; have HT1 := Lib.hid ht1; have HG1 := Lib.hid hg1; clear ht1 hg1))
          | (go_at_call 29; (with_reducible refine (run_calls en_blank tblank_calls X s (runB lineI s k) _ HT1.out HA.out.2 hs).mono ?_); rintro e w2 ⟨rfl, ht2, hg2⟩; have HT2 := Lib.hid ht2; have HG2 := Lib.hid hg2; clear ht2 hg2))
        go_roundw
        case rel => exact ⟨runB blankI s (runB lineI s k), HAB.out.2, Nat.le_trans hak (Nat.le_trans HA.out.1 HAB.out.1), by rw [HQ.out, HR.out], HT2.out, grown_trans HG.out (grown_trans (un_drew (un_drew HG1.out)) HG2.out)⟩
        case measure =>
          have h1 := HP.out
          have h2 := HAB.out
          rw [HT2.out.textAt, HT.out.textAt]
          omega
      | false =>
        have HP := Lib.hid (show k + 1 ≤ runB blankI s k by
          have h0 := ofB_at HM.out hkl
          have h1 : moreB blankI s k = true := by
            unfold moreB; rw [dif_pos hkl]
            unfold ofB gapI at h0
            rw [h37, Bool.or_false] at h0
            exact h0
          have := runB_le (P := blankI) (s := s) (a := k + 1) hkl
          rw [(runB_more h1).2] at this
          exact this.1)
        have HQ := Lib.hid (show skipR false (s.data.toList.drop (runB blankI s k)) = skipR false (s.data.toList.drop k) by
          rw [runB_drop, ← skipR_blank])
        go_wp2_with (first
          | (go_at_call 26; refine (more_calls en_gap tgap_calls X s k _ HT.out).mono ?_; rintro e w' ⟨rfl, rfl⟩; rw [HM.out]))
        go_region
        go_wp2_with (first
          | (go_at_call 29; ((with_reducible refine (run_calls en_blank tblank_calls X s k _ ?_ hk hs).mono ?_); (focus (exact HT.out)); rintro e w1 ⟨rfl, ht1, hg1⟩; have HT1 := Lib.hid ht1; have HG1 := Lib.hid hg1; clear ht1 hg1)))
        go_roundw
        case rel => exact ⟨runB blankI s k, HK.out.2, Nat.le_trans hak HK.out.1, by rw [HQ.out, HR.out], HT1.out, grown_trans HG.out (un_drew (un_drew HG1.out))⟩
        case measure =>
          have h1 := HP.out
          have h2 := HK.out
          rw [HT1.out.textAt, HT.out.textAt]
          omega
    | false =>
      have HM := Lib.hid hm
      have HQ := Lib.hid (show s.data.toList.drop k = skipR false (s.data.toList.drop k) by
        by_cases hkl : k < s.size
        · rw [drop_at hkl, skipR_stay (ofB_no hm hkl)]
        · rw [drop_end (by omega)]; rfl)
      clear hm
      go_wp2_with (first
        | (go_at_call 26; refine (more_calls en_gap tgap_calls X s k _ HT.out).mono ?_; rintro e w' ⟨rfl, rfl⟩; rw [HM.out]))
      go_end0
      exact ⟨rfl, k, hak, hk, by rw [← HR.out]; exact HQ.out, HT.out.drew, grown_drew HG.out⟩

/-- A token as it lies in a slot. -/
def tokV (t : Tok) (a : Int) : Value := .agg #[.int .i64 (t.k : Int), .string ⟨t.s.toArray⟩, .int .i64 t.n, .bool t.q, .int .i64 a]
def tok0 : Tok := ⟨0, [], 0, false⟩
/-- What a scanner of one token hands back: a token, and what is left of the text; or an error. -/
def OneIs (X : Nat) (s : ByteArray) (g : Got) (w : World) (e : Ending) (w' : World) : Prop :=
  w.grownBy w' (some X) ∧ match g with
    | .bad n => e = .returned (.tuple #[tokV tok0 0, .int .i64 (n : Int)]) ∧ ∃ b, IsText X s b w'
    | .tok t r => e = .returned (.tuple #[tokV t 0, .int .i64 0]) ∧ ∃ b, b ≤ s.size ∧ s.data.toList.drop b = r ∧ IsText X s b w'

set_option maxRecDepth 100000 in
theorem named_calls (kind : Nat) (X : Nat) (s : ByteArray) (a : Nat) (w : World) (hT : IsText X s a w) (ha : a ≤ s.size) (hs : s.size ≤ 65536) :
    Calls Tryz.prog 35 #[.pointer (some ⟨X, 0, none⟩), .int .i64 (kind : Int)] w (OneIs X s (namedL kind (s.data.toList.drop a)) w) := by
  have hle := runB_le (P := wrdI) ha
  have hrt := runB_take wrdI s a
  have hrd := runB_drop wrdI s a
  have hes : (s.extract a (runB wrdI s a)).size = ((s.data.toList.drop a).takeWhile (ofB wrdI)).length := by
    rw [← hrt]; exact (Array.length_toList).symm
  have hT2 : IsText X s a (w.alloc (.cells #[.int .i64 0, .string ⟨#[]⟩, .int .i64 0, .bool false, .int .i64 0] 35)) := hT.grown (World.grownBy_alloc _ _ none) (by simp)
  have HT := Lib.hid hT2
  have HLT := Lib.hid hT.lt
  have HRD := Lib.hid hrd
  have HLE := Lib.hid hle
  have HN := Lib.hid (show s.extract a (runB wrdI s a) = ⟨((s.data.toList.drop a).takeWhile (ofB wrdI)).toArray⟩ by
    apply ByteArray.ext
    rw [← hrt])
  clear hT hT2 hrd hle
  obtain ⟨E, hE⟩ : ∃ E, s.extract a (runB wrdI s a) = E := ⟨_, rfl⟩
  rw [hE] at hes
  have HE := Lib.hid hE
  clear hrt hE
  by_cases h : 32 < ((s.data.toList.drop a).takeWhile (ofB wrdI)).length
  · have HG := Lib.hid (show namedL kind (s.data.toList.drop a) = .bad 4 from if_pos h)
    have hd : decide (32 < (E.size : Int)) = true := decide_eq_true (by omega)
    clear hes h
    go_enter Tryz.func35, Tryz.ntmps35
    go_wp2_with (go_at_call 29; ((with_reducible refine (run_calls en_word tword_calls X s a _ HT.out ha hs).mono ?_); rintro e w1 ⟨rfl, ht1, hg1⟩; rw [HE.out]; have HT1 := Lib.hid ht1; have HG1 := Lib.hid hg1; have hb1 := (IsTok.new w).grown hg1 (by have := HLT.out; simp; omega); have k0 := hb1.c0; have k1 := hb1.c1; have k2 := hb1.c2; have k3 := hb1.c3; have k4 := hb1.c4; have l0 := hb1.fr 0; have l1 := hb1.fr 1; have l2 := hb1.fr 2; have l3 := hb1.fr 3; have l4 := hb1.fr 4; have HB1 := Lib.hid hb1; clear hb1 ht1 hg1))
    have hres := HB1.out.set (.int .i64 0) (.string ⟨#[]⟩) (.int .i64 0) (.bool false) (.int .i64 0)
    have HX := HLT.out
    have r0 := hres.c0; have r1 := hres.c1; have r2 := hres.c2; have r3 := hres.c3; have r4 := hres.c4
    refine bodyPost_ret (v := .tuple #[tokV tok0 0, .int .i64 4]) (by simp [results, Tryz.results35, go_sem, r0, r1, r2, r3, r4]; rfl) rfl ⟨grown_tokSet (grown_trans (World.grownBy_alloc _ _ _) HG1.out) (Nat.le_refl _) _ _ _ _ _, ?_⟩
    rw [HG.out]
    exact ⟨rfl, _, HT1.out.tokSet (by omega) _ _ _ _ _⟩
  · have HG := Lib.hid (show namedL kind (s.data.toList.drop a) = .tok ⟨kind, (s.data.toList.drop a).takeWhile (ofB wrdI), 0, false⟩ ((s.data.toList.drop a).dropWhile (ofB wrdI)) from if_neg h)
    have hd : decide (32 < (E.size : Int)) = false := decide_eq_false (by omega)
    clear hes h
    go_enter Tryz.func35, Tryz.ntmps35
    go_wp2_with (go_at_call 29; ((with_reducible refine (run_calls en_word tword_calls X s a _ HT.out ha hs).mono ?_); rintro e w1 ⟨rfl, ht1, hg1⟩; rw [HE.out]; have HT1 := Lib.hid ht1; have HG1 := Lib.hid hg1; have hb1 := (IsTok.new w).grown hg1 (by have := HLT.out; simp; omega); have k0 := hb1.c0; have k1 := hb1.c1; have k2 := hb1.c2; have k3 := hb1.c3; have k4 := hb1.c4; have l0 := hb1.fr 0; have l1 := hb1.fr 1; have l2 := hb1.fr 2; have l3 := hb1.fr 3; have l4 := hb1.fr 4; have HB1 := Lib.hid hb1; clear hb1 ht1 hg1))
    have hres := HB1.out.set (.int .i64 (kind : Int)) (.string E) (.int .i64 0) (.bool false) (.int .i64 0)
    have HX := HLT.out
    have r0 := hres.c0; have r1 := hres.c1; have r2 := hres.c2; have r3 := hres.c3; have r4 := hres.c4
    refine bodyPost_ret (v := .tuple #[.agg #[.int .i64 (kind : Int), .string E, .int .i64 0, .bool false, .int .i64 0], .int .i64 0]) (by simp [results, Tryz.results35, go_sem, r0, r1, r2, r3, r4]) rfl ⟨grown_tokSet (grown_trans (World.grownBy_alloc _ _ _) HG1.out) (Nat.le_refl _) _ _ _ _ _, ?_⟩
    rw [HG.out]
    refine ⟨?_, _, HLE.out.2, HRD.out, HT1.out.tokSet (by omega) _ _ _ _ _⟩
    rw [← HE.out, HN.out]
    rfl
end Go.Proofs.YtdfjhhhbkgelaaaGreatDoor.V
