/- The document's one: a part of its cases. (printed by gen_rone.py) The document's one: a part of its cases. (printed by gen_rone.py) The document's one: a part of its cases. (printed by gen_rone.py) The document's one: a part of its cases. (printed by gen_rone.py) The document's one: the token at a place. (printed by gen_rone.py) The document's Scan. -/
import Derived.BigQuiet
import Derived.Deep.QuietTactic
import Derived.Test.YtminbdcabacfbaaGreatDoorKAtoms6
namespace Go.Proofs.YtminbdcabacfbaaGreatDoor.V
set_option linter.unusedVariables false
set_option linter.unusedSimpArgs false
open Go.RowKit

set_option maxRecDepth 100000 in
set_option maxHeartbeats 16000000 in
theorem rone_small_n (s : ByteArray) (a : Nat) (w : World) (ha : a < s.size) (hs : s.size ≤ 65536) (hn : ¬ a + 1 < s.size) (hsm : sml ((s[a]'ha).toNat : Int) = true) :
    Calls Tryz.prog 67 #[.string s, .int .i64 (a : Int)] w fun e w' => Below w.heap.size w w' ∧ e = .returned (gotV s.size (oneL (s[a]'ha) (s.data.toList.drop (a + 1)))) := by
  have HG := Lib.hid (IsGot.new (v0 := .int .i64 0) (v1 := .string ⟨#[]⟩) (v2 := .int .i64 0) (v3 := .bool false) (v4 := .int .i64 0) (v5 := .int .i64 0) (v6 := .int .i64 0) w)
  have HB := Lib.hid ((Below.refl w.heap.size w).alloc (Nat.le_refl _) (.cells #[.int .i64 0, .string ⟨#[]⟩, .int .i64 0, .bool false, .int .i64 0, .int .i64 0, .int .i64 0] 115))
  have hnd : decide ((a : Int) + 1 < (s.size : Int)) = false := decide_eq_false (by omega)
  have hbg : bgI ((s[a]'ha).toNat : Int) = false := by simp only [sml, bgI] at *; simp at *; omega
  have HQ := Lib.hid (show oneL (s[a]'ha) (s.data.toList.drop (a + 1)) = if 32 < runB wrdI s a - a then .bad 4 else .tok ⟨1, (s.data.toList.drop a).takeWhile (ofB wrdI), 0, false⟩ (s.data.toList.drop (runB wrdI s a)) from by
    rw [oneL_small hsm, ← drop_at ha]
    unfold namedL
    rw [runB_drop, show runB wrdI s a - a = ((s.data.toList.drop a).takeWhile (ofB wrdI)).length by unfold runB; omega])
  obtain ⟨T, hT⟩ : ∃ T, runB wrdI s a = T := ⟨_, rfl⟩
  have hTl := runB_le (P := wrdI) (s := s) (a := a) (by omega)
  have HX := Lib.hid (bs_of (runB_take wrdI s a))
  rw [hT] at hTl HQ HX
  have HTL := Lib.hid hTl
  have HT := Lib.hid hT
  clear hT hTl
  have hw0g : ∃ w0, w.alloc (.cells #[.int .i64 0, .string ⟨#[]⟩, .int .i64 0, .bool false, .int .i64 0, .int .i64 0, .int .i64 0] 115) = w0 := ⟨_, rfl⟩
  go_enter Tryz.func67, Tryz.ntmps67
  have k0 := HG.out.c0; have k1 := HG.out.c1; have k2 := HG.out.c2; have k3 := HG.out.c3; have k4 := HG.out.c4; have k5 := HG.out.c5; have k6 := HG.out.c6
  have l0 := HG.out.fr 0; have l1 := HG.out.fr 1; have l2 := HG.out.fr 2; have l3 := HG.out.fr 3; have l4 := HG.out.fr 4; have l5 := HG.out.fr 5; have l6 := HG.out.fr 6
  go_wp2_with (first
    | (go_at_call 97; with_reducible refine (rsmall5_calls _ _).mono ?_; rintro e w' ⟨rfl, rfl⟩; first | rw [hsm] | rw [hsm'])
    | (go_at_call 98; with_reducible refine (rbig5_calls _ _).mono ?_; rintro e w' ⟨rfl, rfl⟩; first | rw [hbg] | rw [hbg'])
    | (go_at_call 100; with_reducible refine (rfig5_calls _ _).mono ?_; rintro e w' ⟨rfl, rfl⟩; first | rw [hfg] | rw [hfg'] | rw [hfn] | rw [show figI 0 = false from rfl]))
  obtain ⟨w0, hw0⟩ := hw0g
  rw [hw0] at HG HB k0 k1 k2 k3 k4 k5 k6 l0 l1 l2 l3 l4 l5 l6 ⊢
  go_loopw [7] (fun i wr => ∃ k : Nat, a ≤ k ∧ k ≤ s.size ∧ i = .int .i64 (k : Int) ∧ runB wrdI s k = T ∧ w0 = wr) (fun i _ => s.size + 1 - (intOf i).toNat)
  case atStart => exact ⟨a, Nat.le_refl _, Nat.le_of_lt ha, rfl, HT.out, rfl⟩
  case round =>
    obtain ⟨k, hak, hk, rfl, hr, rfl⟩ := hrel
    cases hm : moreB wrdI s k with
    | true =>
      obtain ⟨hkl, hr2⟩ := runB_more hm
      have hd : decide ((k : Int) < (s.size : Int)) = true := decide_eq_true (by omega)
      have hwd : wrdI ((s[k]'hkl).toNat : Int) = true := ofB_at hm hkl
      have HR := Lib.hid (hr2.trans hr)
      clear hr hr2 hm
      go_wp2_with (go_at_call 99; with_reducible refine (rword5_calls _ _).mono ?_; rintro e w' ⟨rfl, rfl⟩; rw [hwd])
      go_roundw
      case rel => exact ⟨k + 1, by omega, hkl, by simp, HR.out, trivial⟩
      case measure => simp [intOf]; omega
    | false =>
      have hkT : k = T := by rw [← hr, runB_stop hm]
      subst hkT
      by_cases hkl : k < s.size
      · have hd : decide ((k : Int) < (s.size : Int)) = true := decide_eq_true (by omega)
        have hwd : wrdI ((s[k]'hkl).toNat : Int) = false := ofB_no hm hkl
        clear hr hm
        by_cases h32 : 32 < k - a
        · exfalso
          omega
        · have hd32 : decide ((32 : Int) < (k : Int) - (a : Int)) = false := decide_eq_false (by omega)
          have hka : a ≤ k := HTL.out.1
          go_wp2_with (first
            | (go_at_call 97; with_reducible refine (rsmall5_calls _ _).mono ?_; rintro e w' ⟨rfl, rfl⟩; first | rw [hsm] | rw [hsm'])
            | (go_at_call 98; with_reducible refine (rbig5_calls _ _).mono ?_; rintro e w' ⟨rfl, rfl⟩; first | rw [hbg] | rw [hbg'])
            | (go_at_call 100; with_reducible refine (rfig5_calls _ _).mono ?_; rintro e w' ⟨rfl, rfl⟩; first | rw [hfg] | rw [hfg'] | rw [hfn] | rw [show figI 0 = false from rfl])
            | (go_at_call 99; with_reducible refine (rword5_calls _ _).mono ?_; rintro e w' ⟨rfl, rfl⟩; rw [hwd]))
          have hset := HG.out.set (.int .i64 1) (.string (s.extract a k)) (.int .i64 0) (.bool false) (.int .i64 0) (.int .i64 ((k : Int))) (.int .i64 0)
          have r0 := hset.c0
          have r1 := hset.c1
          have r2 := hset.c2
          have r3 := hset.c3
          have r4 := hset.c4
          have r5 := hset.c5
          have r6 := hset.c6
          refine bodyPost_ret (v := .agg #[.int .i64 1, .string (s.extract a k), .int .i64 0, .bool false, .int .i64 0, .int .i64 ((k : Int)), .int .i64 0]) (by simp [results, Tryz.results67, go_sem, r0, r1, r2, r3, r4, r5, r6]) rfl ⟨below_gotSet HB.out (Nat.le_refl _) _ _ _ _ _ _ _, ?_⟩
          rw [HQ.out, if_neg h32]
          show _ = Ending.returned (.agg #[.int .i64 1, .string (bs ((s.data.toList.drop a).takeWhile (ofB wrdI))), .int .i64 0, .bool false, .int .i64 0, .int .i64 ((s.size - (s.data.toList.drop k).length : Nat) : Int), .int .i64 0])
          rw [HX.out, drop_len HTL.out.2]
      · have hd : decide ((k : Int) < (s.size : Int)) = false := decide_eq_false (by omega)
        clear hr hm
        by_cases h32 : 32 < k - a
        · exfalso
          omega
        · have hd32 : decide ((32 : Int) < (k : Int) - (a : Int)) = false := decide_eq_false (by omega)
          have hka : a ≤ k := HTL.out.1
          go_wp2_with (first
            | (go_at_call 97; with_reducible refine (rsmall5_calls _ _).mono ?_; rintro e w' ⟨rfl, rfl⟩; first | rw [hsm] | rw [hsm'])
            | (go_at_call 98; with_reducible refine (rbig5_calls _ _).mono ?_; rintro e w' ⟨rfl, rfl⟩; first | rw [hbg] | rw [hbg'])
            | (go_at_call 100; with_reducible refine (rfig5_calls _ _).mono ?_; rintro e w' ⟨rfl, rfl⟩; first | rw [hfg] | rw [hfg'] | rw [hfn] | rw [show figI 0 = false from rfl]))
          have hset := HG.out.set (.int .i64 1) (.string (s.extract a k)) (.int .i64 0) (.bool false) (.int .i64 0) (.int .i64 ((k : Int))) (.int .i64 0)
          have r0 := hset.c0
          have r1 := hset.c1
          have r2 := hset.c2
          have r3 := hset.c3
          have r4 := hset.c4
          have r5 := hset.c5
          have r6 := hset.c6
          refine bodyPost_ret (v := .agg #[.int .i64 1, .string (s.extract a k), .int .i64 0, .bool false, .int .i64 0, .int .i64 ((k : Int)), .int .i64 0]) (by simp [results, Tryz.results67, go_sem, r0, r1, r2, r3, r4, r5, r6]) rfl ⟨below_gotSet HB.out (Nat.le_refl _) _ _ _ _ _ _ _, ?_⟩
          rw [HQ.out, if_neg h32]
          show _ = Ending.returned (.agg #[.int .i64 1, .string (bs ((s.data.toList.drop a).takeWhile (ofB wrdI))), .int .i64 0, .bool false, .int .i64 0, .int .i64 ((s.size - (s.data.toList.drop k).length : Nat) : Int), .int .i64 0])
          rw [HX.out, drop_len HTL.out.2]
set_option maxRecDepth 100000 in
set_option maxHeartbeats 16000000 in
theorem rone_47_y (s : ByteArray) (a : Nat) (w : World) (ha : a < s.size) (hs : s.size ≤ 65536) (hn : a + 1 < s.size) (hc : (s[a]'ha) = 47) :
    Calls Tryz.prog 67 #[.string s, .int .i64 (a : Int)] w fun e w' => Below w.heap.size w w' ∧ e = .returned (gotV s.size (oneL (s[a]'ha) (s.data.toList.drop (a + 1)))) := by
  have HG := Lib.hid (IsGot.new (v0 := .int .i64 0) (v1 := .string ⟨#[]⟩) (v2 := .int .i64 0) (v3 := .bool false) (v4 := .int .i64 0) (v5 := .int .i64 0) (v6 := .int .i64 0) w)
  have HB := Lib.hid ((Below.refl w.heap.size w).alloc (Nat.le_refl _) (.cells #[.int .i64 0, .string ⟨#[]⟩, .int .i64 0, .bool false, .int .i64 0, .int .i64 0, .int .i64 0] 115))
  have hnd : decide ((a : Int) + 1 < (s.size : Int)) = true := decide_eq_true (by omega)
  have hsm : sml ((s[a]'ha).toNat : Int) = false := by rw [hc]; rfl
  have hbg : bgI ((s[a]'ha).toNat : Int) = false := by rw [hc]; rfl
  have hfg : figI ((s[a]'ha).toNat : Int) = false := by rw [hc]; rfl
  have hcv : ((s[a]'ha).toNat : Int) = 47 := by rw [hc]; rfl
  have hsm' : sml 47 = false := rfl
  have hbg' : bgI 47 = false := rfl
  have hfg' : figI 47 = false := rfl
  have HM := Lib.hid (show markTwo (47 :: s.data.toList.drop (a + 1)) = false from by simp [markTwo, List.isPrefixOf])
  go_enter Tryz.func67, Tryz.ntmps67
  have k0 := HG.out.c0; have k1 := HG.out.c1; have k2 := HG.out.c2; have k3 := HG.out.c3; have k4 := HG.out.c4; have k5 := HG.out.c5; have k6 := HG.out.c6
  have l0 := HG.out.fr 0; have l1 := HG.out.fr 1; have l2 := HG.out.fr 2; have l3 := HG.out.fr 3; have l4 := HG.out.fr 4; have l5 := HG.out.fr 5; have l6 := HG.out.fr 6
  go_wp2_with (first
    | (go_at_call 97; with_reducible refine (rsmall5_calls _ _).mono ?_; rintro e w' ⟨rfl, rfl⟩; first | rw [hsm] | rw [hsm'])
    | (go_at_call 98; with_reducible refine (rbig5_calls _ _).mono ?_; rintro e w' ⟨rfl, rfl⟩; first | rw [hbg] | rw [hbg'])
    | (go_at_call 100; with_reducible refine (rfig5_calls _ _).mono ?_; rintro e w' ⟨rfl, rfl⟩; first | rw [hfg] | rw [hfg'] | rw [hfn] | rw [show figI 0 = false from rfl]))
  refine bodyPost_ret (v := .agg #[.int .i64 4, .string (s.extract a (a + 1)), .int .i64 0, .bool false, .int .i64 0, .int .i64 ((a : Int) + 1), .int .i64 0]) (by simp [results, Tryz.results67, go_sem]) rfl ⟨(Below.refl w.heap.size w).alloc (Nat.le_refl _) _, ?_⟩
  rw [hc, oneL_markc (by decide) (by decide) (by decide) (by decide) (by decide), markL_one 47 _ (HM.out) (by decide), ext_one ha, hc]
  show _ = Ending.returned (.agg #[.int .i64 4, .string (bs [47]), .int .i64 0, .bool false, .int .i64 0, .int .i64 ((s.size - (s.data.toList.drop (a + 1)).length : Nat) : Int), .int .i64 0])
  rw [drop_len (show a + 1 ≤ s.size by omega)]
  rfl
set_option maxRecDepth 100000 in
set_option maxHeartbeats 16000000 in
theorem rone_62two_y (s : ByteArray) (a : Nat) (w : World) (ha : a < s.size) (hs : s.size ≤ 65536) (hn : a + 1 < s.size) (hc : (s[a]'ha) = 62) (hnx : s[a + 1]'hn = 61) :
    Calls Tryz.prog 67 #[.string s, .int .i64 (a : Int)] w fun e w' => Below w.heap.size w w' ∧ e = .returned (gotV s.size (oneL (s[a]'ha) (s.data.toList.drop (a + 1)))) := by
  have HG := Lib.hid (IsGot.new (v0 := .int .i64 0) (v1 := .string ⟨#[]⟩) (v2 := .int .i64 0) (v3 := .bool false) (v4 := .int .i64 0) (v5 := .int .i64 0) (v6 := .int .i64 0) w)
  have HB := Lib.hid ((Below.refl w.heap.size w).alloc (Nat.le_refl _) (.cells #[.int .i64 0, .string ⟨#[]⟩, .int .i64 0, .bool false, .int .i64 0, .int .i64 0, .int .i64 0] 115))
  have hnd : decide ((a : Int) + 1 < (s.size : Int)) = true := decide_eq_true (by omega)
  have hsm : sml ((s[a]'ha).toNat : Int) = false := by rw [hc]; rfl
  have hbg : bgI ((s[a]'ha).toNat : Int) = false := by rw [hc]; rfl
  have hfg : figI ((s[a]'ha).toNat : Int) = false := by rw [hc]; rfl
  have hcv : ((s[a]'ha).toNat : Int) = 62 := by rw [hc]; rfl
  have hsm' : sml 62 = false := rfl
  have hbg' : bgI 62 = false := rfl
  have hfg' : figI 62 = false := rfl
  have hnv : ((s[a + 1]'hn).toNat : Int) = 61 := by rw [hnx]; rfl
  have hfn : figI 61 = false := rfl
  go_enter Tryz.func67, Tryz.ntmps67
  have k0 := HG.out.c0; have k1 := HG.out.c1; have k2 := HG.out.c2; have k3 := HG.out.c3; have k4 := HG.out.c4; have k5 := HG.out.c5; have k6 := HG.out.c6
  have l0 := HG.out.fr 0; have l1 := HG.out.fr 1; have l2 := HG.out.fr 2; have l3 := HG.out.fr 3; have l4 := HG.out.fr 4; have l5 := HG.out.fr 5; have l6 := HG.out.fr 6
  go_wp2_with (first
    | (go_at_call 97; with_reducible refine (rsmall5_calls _ _).mono ?_; rintro e w' ⟨rfl, rfl⟩; first | rw [hsm] | rw [hsm'])
    | (go_at_call 98; with_reducible refine (rbig5_calls _ _).mono ?_; rintro e w' ⟨rfl, rfl⟩; first | rw [hbg] | rw [hbg'])
    | (go_at_call 100; with_reducible refine (rfig5_calls _ _).mono ?_; rintro e w' ⟨rfl, rfl⟩; first | rw [hfg] | rw [hfg'] | rw [hfn] | rw [show figI 0 = false from rfl]))
  refine bodyPost_ret (v := .agg #[.int .i64 4, .string (s.extract a (a + 2)), .int .i64 0, .bool false, .int .i64 0, .int .i64 ((a : Int) + 2), .int .i64 0]) (by simp [results, Tryz.results67, go_sem]) rfl ⟨(Below.refl w.heap.size w).alloc (Nat.le_refl _) _, ?_⟩
  rw [hc, drop_at hn, hnx, oneL_markc (by decide) (by decide) (by decide) (by decide) (by decide), markL_two 62 61 _ (by simp [markTwo, List.isPrefixOf]), ext_two hn, hc, hnx]
  show _ = Ending.returned (.agg #[.int .i64 4, .string (bs [62, 61]), .int .i64 0, .bool false, .int .i64 0, .int .i64 ((s.size - (s.data.toList.drop (a + 1 + 1)).length : Nat) : Int), .int .i64 0])
  rw [drop_len (show a + 1 + 1 ≤ s.size by omega)]
  rfl
set_option maxRecDepth 100000 in
set_option maxHeartbeats 16000000 in
theorem rone_lowno_n (s : ByteArray) (a : Nat) (w : World) (ha : a < s.size) (hs : s.size ≤ 65536) (hn : ¬ a + 1 < s.size) (hc : (s[a]'ha) = 45) :
    Calls Tryz.prog 67 #[.string s, .int .i64 (a : Int)] w fun e w' => Below w.heap.size w w' ∧ e = .returned (gotV s.size (oneL (s[a]'ha) (s.data.toList.drop (a + 1)))) := by
  have HG := Lib.hid (IsGot.new (v0 := .int .i64 0) (v1 := .string ⟨#[]⟩) (v2 := .int .i64 0) (v3 := .bool false) (v4 := .int .i64 0) (v5 := .int .i64 0) (v6 := .int .i64 0) w)
  have HB := Lib.hid ((Below.refl w.heap.size w).alloc (Nat.le_refl _) (.cells #[.int .i64 0, .string ⟨#[]⟩, .int .i64 0, .bool false, .int .i64 0, .int .i64 0, .int .i64 0] 115))
  have hnd : decide ((a : Int) + 1 < (s.size : Int)) = false := decide_eq_false (by omega)
  have hsm : sml ((s[a]'ha).toNat : Int) = false := by rw [hc]; rfl
  have hbg : bgI ((s[a]'ha).toNat : Int) = false := by rw [hc]; rfl
  have hfg : figI ((s[a]'ha).toNat : Int) = false := by rw [hc]; rfl
  have hcv : ((s[a]'ha).toNat : Int) = 45 := by rw [hc]; rfl
  have hsm' : sml 45 = false := rfl
  have hbg' : bgI 45 = false := rfl
  have hfg' : figI 45 = false := rfl
  go_enter Tryz.func67, Tryz.ntmps67
  have k0 := HG.out.c0; have k1 := HG.out.c1; have k2 := HG.out.c2; have k3 := HG.out.c3; have k4 := HG.out.c4; have k5 := HG.out.c5; have k6 := HG.out.c6
  have l0 := HG.out.fr 0; have l1 := HG.out.fr 1; have l2 := HG.out.fr 2; have l3 := HG.out.fr 3; have l4 := HG.out.fr 4; have l5 := HG.out.fr 5; have l6 := HG.out.fr 6
  go_wp2_with (first
    | (go_at_call 97; with_reducible refine (rsmall5_calls _ _).mono ?_; rintro e w' ⟨rfl, rfl⟩; first | rw [hsm] | rw [hsm'])
    | (go_at_call 98; with_reducible refine (rbig5_calls _ _).mono ?_; rintro e w' ⟨rfl, rfl⟩; first | rw [hbg] | rw [hbg'])
    | (go_at_call 100; with_reducible refine (rfig5_calls _ _).mono ?_; rintro e w' ⟨rfl, rfl⟩; first | rw [hfg] | rw [hfg'] | rw [hfn] | rw [show figI 0 = false from rfl]))
  refine bodyPost_ret (v := .agg #[.int .i64 0, .string ⟨#[]⟩, .int .i64 0, .bool false, .int .i64 0, .int .i64 0, .int .i64 2]) (by simp [results, Tryz.results67, go_sem]) rfl ⟨(Below.refl w.heap.size w).alloc (Nat.le_refl _) _, ?_⟩
  rw [hc, drop_end (by omega), oneL_low_end]
  rfl
set_option maxRecDepth 100000 in
set_option maxHeartbeats 16000000 in
theorem rone_47_n (s : ByteArray) (a : Nat) (w : World) (ha : a < s.size) (hs : s.size ≤ 65536) (hn : ¬ a + 1 < s.size) (hc : (s[a]'ha) = 47) :
    Calls Tryz.prog 67 #[.string s, .int .i64 (a : Int)] w fun e w' => Below w.heap.size w w' ∧ e = .returned (gotV s.size (oneL (s[a]'ha) (s.data.toList.drop (a + 1)))) := by
  have HG := Lib.hid (IsGot.new (v0 := .int .i64 0) (v1 := .string ⟨#[]⟩) (v2 := .int .i64 0) (v3 := .bool false) (v4 := .int .i64 0) (v5 := .int .i64 0) (v6 := .int .i64 0) w)
  have HB := Lib.hid ((Below.refl w.heap.size w).alloc (Nat.le_refl _) (.cells #[.int .i64 0, .string ⟨#[]⟩, .int .i64 0, .bool false, .int .i64 0, .int .i64 0, .int .i64 0] 115))
  have hnd : decide ((a : Int) + 1 < (s.size : Int)) = false := decide_eq_false (by omega)
  have hsm : sml ((s[a]'ha).toNat : Int) = false := by rw [hc]; rfl
  have hbg : bgI ((s[a]'ha).toNat : Int) = false := by rw [hc]; rfl
  have hfg : figI ((s[a]'ha).toNat : Int) = false := by rw [hc]; rfl
  have hcv : ((s[a]'ha).toNat : Int) = 47 := by rw [hc]; rfl
  have hsm' : sml 47 = false := rfl
  have hbg' : bgI 47 = false := rfl
  have hfg' : figI 47 = false := rfl
  have HM := Lib.hid (show markTwo (47 :: s.data.toList.drop (a + 1)) = false from by simp [markTwo, List.isPrefixOf])
  go_enter Tryz.func67, Tryz.ntmps67
  have k0 := HG.out.c0; have k1 := HG.out.c1; have k2 := HG.out.c2; have k3 := HG.out.c3; have k4 := HG.out.c4; have k5 := HG.out.c5; have k6 := HG.out.c6
  have l0 := HG.out.fr 0; have l1 := HG.out.fr 1; have l2 := HG.out.fr 2; have l3 := HG.out.fr 3; have l4 := HG.out.fr 4; have l5 := HG.out.fr 5; have l6 := HG.out.fr 6
  go_wp2_with (first
    | (go_at_call 97; with_reducible refine (rsmall5_calls _ _).mono ?_; rintro e w' ⟨rfl, rfl⟩; first | rw [hsm] | rw [hsm'])
    | (go_at_call 98; with_reducible refine (rbig5_calls _ _).mono ?_; rintro e w' ⟨rfl, rfl⟩; first | rw [hbg] | rw [hbg'])
    | (go_at_call 100; with_reducible refine (rfig5_calls _ _).mono ?_; rintro e w' ⟨rfl, rfl⟩; first | rw [hfg] | rw [hfg'] | rw [hfn] | rw [show figI 0 = false from rfl]))
  refine bodyPost_ret (v := .agg #[.int .i64 4, .string (s.extract a (a + 1)), .int .i64 0, .bool false, .int .i64 0, .int .i64 ((a : Int) + 1), .int .i64 0]) (by simp [results, Tryz.results67, go_sem]) rfl ⟨(Below.refl w.heap.size w).alloc (Nat.le_refl _) _, ?_⟩
  rw [hc, oneL_markc (by decide) (by decide) (by decide) (by decide) (by decide), markL_one 47 _ (HM.out) (by decide), ext_one ha, hc]
  show _ = Ending.returned (.agg #[.int .i64 4, .string (bs [47]), .int .i64 0, .bool false, .int .i64 0, .int .i64 ((s.size - (s.data.toList.drop (a + 1)).length : Nat) : Int), .int .i64 0])
  rw [drop_len (show a + 1 ≤ s.size by omega)]
  rfl
set_option maxRecDepth 100000 in
set_option maxHeartbeats 16000000 in
theorem rone_else_n (s : ByteArray) (a : Nat) (w : World) (ha : a < s.size) (hs : s.size ≤ 65536) (hn : ¬ a + 1 < s.size) (hsm : sml ((s[a]'ha).toNat : Int) = false) (hbg : bgI ((s[a]'ha).toNat : Int) = false) (hfg : figI ((s[a]'ha).toNat : Int) = false) (e45 : (((s[a]'ha).toNat : Int) == 45) = false) (e39 : (((s[a]'ha).toNat : Int) == 39) = false) (e58 : (((s[a]'ha).toNat : Int) == 58) = false) (e60 : (((s[a]'ha).toNat : Int) == 60) = false) (e62 : (((s[a]'ha).toNat : Int) == 62) = false) (e33 : (((s[a]'ha).toNat : Int) == 33) = false) (e40 : (((s[a]'ha).toNat : Int) == 40) = false) (e41 : (((s[a]'ha).toNat : Int) == 41) = false) (e44 : (((s[a]'ha).toNat : Int) == 44) = false) (e46 : (((s[a]'ha).toNat : Int) == 46) = false) (e47 : (((s[a]'ha).toNat : Int) == 47) = false) (e61 : (((s[a]'ha).toNat : Int) == 61) = false) :
    Calls Tryz.prog 67 #[.string s, .int .i64 (a : Int)] w fun e w' => Below w.heap.size w w' ∧ e = .returned (gotV s.size (oneL (s[a]'ha) (s.data.toList.drop (a + 1)))) := by
  have HG := Lib.hid (IsGot.new (v0 := .int .i64 0) (v1 := .string ⟨#[]⟩) (v2 := .int .i64 0) (v3 := .bool false) (v4 := .int .i64 0) (v5 := .int .i64 0) (v6 := .int .i64 0) w)
  have HB := Lib.hid ((Below.refl w.heap.size w).alloc (Nat.le_refl _) (.cells #[.int .i64 0, .string ⟨#[]⟩, .int .i64 0, .bool false, .int .i64 0, .int .i64 0, .int .i64 0] 115))
  have hnd : decide ((a : Int) + 1 < (s.size : Int)) = false := decide_eq_false (by omega)
  have HQ := Lib.hid (show oneL (s[a]'ha) (s.data.toList.drop (a + 1)) = .bad 2 from by
    have hmo : markOne (s[a]'ha) = false := by unfold markOne; rw [byteNot (d := 40) e40 (by decide), byteNot (d := 41) e41 (by decide), byteNot (d := 44) e44 (by decide), byteNot (d := 46) e46 (by decide), byteNot (d := 47) e47 (by decide), byteNot (d := 60) e60 (by decide), byteNot (d := 62) e62 (by decide), byteNot (d := 61) e61 (by decide)]; rfl
    rw [oneL_markc hsm hbg hfg (byteNot (d := 45) e45 (by decide)) (byteNot (d := 39) e39 (by decide)), markL_no (byteNot (d := 58) e58 (by decide)) (byteNot (d := 60) e60 (by decide)) (byteNot (d := 62) e62 (by decide)) (byteNot (d := 33) e33 (by decide)) hmo])
  go_enter Tryz.func67, Tryz.ntmps67
  have k0 := HG.out.c0; have k1 := HG.out.c1; have k2 := HG.out.c2; have k3 := HG.out.c3; have k4 := HG.out.c4; have k5 := HG.out.c5; have k6 := HG.out.c6
  have l0 := HG.out.fr 0; have l1 := HG.out.fr 1; have l2 := HG.out.fr 2; have l3 := HG.out.fr 3; have l4 := HG.out.fr 4; have l5 := HG.out.fr 5; have l6 := HG.out.fr 6
  go_wp2_with (first
    | (go_at_call 97; with_reducible refine (rsmall5_calls _ _).mono ?_; rintro e w' ⟨rfl, rfl⟩; first | rw [hsm] | rw [hsm'])
    | (go_at_call 98; with_reducible refine (rbig5_calls _ _).mono ?_; rintro e w' ⟨rfl, rfl⟩; first | rw [hbg] | rw [hbg'])
    | (go_at_call 100; with_reducible refine (rfig5_calls _ _).mono ?_; rintro e w' ⟨rfl, rfl⟩; first | rw [hfg] | rw [hfg'] | rw [hfn] | rw [show figI 0 = false from rfl]))
  refine bodyPost_ret (v := .agg #[.int .i64 0, .string ⟨#[]⟩, .int .i64 0, .bool false, .int .i64 0, .int .i64 0, .int .i64 2]) (by simp [results, Tryz.results67, go_sem]) rfl ⟨(Below.refl w.heap.size w).alloc (Nat.le_refl _) _, ?_⟩
  rw [HQ.out]
  rfl
end Go.Proofs.YtminbdcabacfbaaGreatDoor.V

namespace Go.Proofs.YtminbdcabacfbaaGreatDoor.V
set_option linter.unusedVariables false
set_option linter.unusedSimpArgs false
open Go.RowKit

set_option maxRecDepth 100000 in
set_option maxHeartbeats 16000000 in
theorem rone_big_n (s : ByteArray) (a : Nat) (w : World) (ha : a < s.size) (hs : s.size ≤ 65536) (hn : ¬ a + 1 < s.size) (hsm : sml ((s[a]'ha).toNat : Int) = false) (hbg : bgI ((s[a]'ha).toNat : Int) = true) :
    Calls Tryz.prog 67 #[.string s, .int .i64 (a : Int)] w fun e w' => Below w.heap.size w w' ∧ e = .returned (gotV s.size (oneL (s[a]'ha) (s.data.toList.drop (a + 1)))) := by
  have HG := Lib.hid (IsGot.new (v0 := .int .i64 0) (v1 := .string ⟨#[]⟩) (v2 := .int .i64 0) (v3 := .bool false) (v4 := .int .i64 0) (v5 := .int .i64 0) (v6 := .int .i64 0) w)
  have HB := Lib.hid ((Below.refl w.heap.size w).alloc (Nat.le_refl _) (.cells #[.int .i64 0, .string ⟨#[]⟩, .int .i64 0, .bool false, .int .i64 0, .int .i64 0, .int .i64 0] 115))
  have hnd : decide ((a : Int) + 1 < (s.size : Int)) = false := decide_eq_false (by omega)
  have HQ := Lib.hid (show oneL (s[a]'ha) (s.data.toList.drop (a + 1)) = if 32 < runB wrdI s a - a then .bad 4 else .tok ⟨2, (s.data.toList.drop a).takeWhile (ofB wrdI), 0, false⟩ (s.data.toList.drop (runB wrdI s a)) from by
    rw [oneL_big hsm hbg, ← drop_at ha]
    unfold namedL
    rw [runB_drop, show runB wrdI s a - a = ((s.data.toList.drop a).takeWhile (ofB wrdI)).length by unfold runB; omega])
  obtain ⟨T, hT⟩ : ∃ T, runB wrdI s a = T := ⟨_, rfl⟩
  have hTl := runB_le (P := wrdI) (s := s) (a := a) (by omega)
  have HX := Lib.hid (bs_of (runB_take wrdI s a))
  rw [hT] at hTl HQ HX
  have HTL := Lib.hid hTl
  have HT := Lib.hid hT
  clear hT hTl
  have hw0g : ∃ w0, w.alloc (.cells #[.int .i64 0, .string ⟨#[]⟩, .int .i64 0, .bool false, .int .i64 0, .int .i64 0, .int .i64 0] 115) = w0 := ⟨_, rfl⟩
  go_enter Tryz.func67, Tryz.ntmps67
  have k0 := HG.out.c0; have k1 := HG.out.c1; have k2 := HG.out.c2; have k3 := HG.out.c3; have k4 := HG.out.c4; have k5 := HG.out.c5; have k6 := HG.out.c6
  have l0 := HG.out.fr 0; have l1 := HG.out.fr 1; have l2 := HG.out.fr 2; have l3 := HG.out.fr 3; have l4 := HG.out.fr 4; have l5 := HG.out.fr 5; have l6 := HG.out.fr 6
  go_wp2_with (first
    | (go_at_call 97; with_reducible refine (rsmall5_calls _ _).mono ?_; rintro e w' ⟨rfl, rfl⟩; first | rw [hsm] | rw [hsm'])
    | (go_at_call 98; with_reducible refine (rbig5_calls _ _).mono ?_; rintro e w' ⟨rfl, rfl⟩; first | rw [hbg] | rw [hbg'])
    | (go_at_call 100; with_reducible refine (rfig5_calls _ _).mono ?_; rintro e w' ⟨rfl, rfl⟩; first | rw [hfg] | rw [hfg'] | rw [hfn] | rw [show figI 0 = false from rfl]))
  obtain ⟨w0, hw0⟩ := hw0g
  rw [hw0] at HG HB k0 k1 k2 k3 k4 k5 k6 l0 l1 l2 l3 l4 l5 l6 ⊢
  go_loopw [7] (fun i wr => ∃ k : Nat, a ≤ k ∧ k ≤ s.size ∧ i = .int .i64 (k : Int) ∧ runB wrdI s k = T ∧ w0 = wr) (fun i _ => s.size + 1 - (intOf i).toNat)
  case atStart => exact ⟨a, Nat.le_refl _, Nat.le_of_lt ha, rfl, HT.out, rfl⟩
  case round =>
    obtain ⟨k, hak, hk, rfl, hr, rfl⟩ := hrel
    cases hm : moreB wrdI s k with
    | true =>
      obtain ⟨hkl, hr2⟩ := runB_more hm
      have hd : decide ((k : Int) < (s.size : Int)) = true := decide_eq_true (by omega)
      have hwd : wrdI ((s[k]'hkl).toNat : Int) = true := ofB_at hm hkl
      have HR := Lib.hid (hr2.trans hr)
      clear hr hr2 hm
      go_wp2_with (go_at_call 99; with_reducible refine (rword5_calls _ _).mono ?_; rintro e w' ⟨rfl, rfl⟩; rw [hwd])
      go_roundw
      case rel => exact ⟨k + 1, by omega, hkl, by simp, HR.out, trivial⟩
      case measure => simp [intOf]; omega
    | false =>
      have hkT : k = T := by rw [← hr, runB_stop hm]
      subst hkT
      by_cases hkl : k < s.size
      · have hd : decide ((k : Int) < (s.size : Int)) = true := decide_eq_true (by omega)
        have hwd : wrdI ((s[k]'hkl).toNat : Int) = false := ofB_no hm hkl
        clear hr hm
        by_cases h32 : 32 < k - a
        · exfalso
          omega
        · have hd32 : decide ((32 : Int) < (k : Int) - (a : Int)) = false := decide_eq_false (by omega)
          have hka : a ≤ k := HTL.out.1
          go_wp2_with (first
            | (go_at_call 97; with_reducible refine (rsmall5_calls _ _).mono ?_; rintro e w' ⟨rfl, rfl⟩; first | rw [hsm] | rw [hsm'])
            | (go_at_call 98; with_reducible refine (rbig5_calls _ _).mono ?_; rintro e w' ⟨rfl, rfl⟩; first | rw [hbg] | rw [hbg'])
            | (go_at_call 100; with_reducible refine (rfig5_calls _ _).mono ?_; rintro e w' ⟨rfl, rfl⟩; first | rw [hfg] | rw [hfg'] | rw [hfn] | rw [show figI 0 = false from rfl])
            | (go_at_call 99; with_reducible refine (rword5_calls _ _).mono ?_; rintro e w' ⟨rfl, rfl⟩; rw [hwd]))
          have hset := HG.out.set (.int .i64 2) (.string (s.extract a k)) (.int .i64 0) (.bool false) (.int .i64 0) (.int .i64 ((k : Int))) (.int .i64 0)
          have r0 := hset.c0
          have r1 := hset.c1
          have r2 := hset.c2
          have r3 := hset.c3
          have r4 := hset.c4
          have r5 := hset.c5
          have r6 := hset.c6
          refine bodyPost_ret (v := .agg #[.int .i64 2, .string (s.extract a k), .int .i64 0, .bool false, .int .i64 0, .int .i64 ((k : Int)), .int .i64 0]) (by simp [results, Tryz.results67, go_sem, r0, r1, r2, r3, r4, r5, r6]) rfl ⟨below_gotSet HB.out (Nat.le_refl _) _ _ _ _ _ _ _, ?_⟩
          rw [HQ.out, if_neg h32]
          show _ = Ending.returned (.agg #[.int .i64 2, .string (bs ((s.data.toList.drop a).takeWhile (ofB wrdI))), .int .i64 0, .bool false, .int .i64 0, .int .i64 ((s.size - (s.data.toList.drop k).length : Nat) : Int), .int .i64 0])
          rw [HX.out, drop_len HTL.out.2]
      · have hd : decide ((k : Int) < (s.size : Int)) = false := decide_eq_false (by omega)
        clear hr hm
        by_cases h32 : 32 < k - a
        · exfalso
          omega
        · have hd32 : decide ((32 : Int) < (k : Int) - (a : Int)) = false := decide_eq_false (by omega)
          have hka : a ≤ k := HTL.out.1
          go_wp2_with (first
            | (go_at_call 97; with_reducible refine (rsmall5_calls _ _).mono ?_; rintro e w' ⟨rfl, rfl⟩; first | rw [hsm] | rw [hsm'])
            | (go_at_call 98; with_reducible refine (rbig5_calls _ _).mono ?_; rintro e w' ⟨rfl, rfl⟩; first | rw [hbg] | rw [hbg'])
            | (go_at_call 100; with_reducible refine (rfig5_calls _ _).mono ?_; rintro e w' ⟨rfl, rfl⟩; first | rw [hfg] | rw [hfg'] | rw [hfn] | rw [show figI 0 = false from rfl]))
          have hset := HG.out.set (.int .i64 2) (.string (s.extract a k)) (.int .i64 0) (.bool false) (.int .i64 0) (.int .i64 ((k : Int))) (.int .i64 0)
          have r0 := hset.c0
          have r1 := hset.c1
          have r2 := hset.c2
          have r3 := hset.c3
          have r4 := hset.c4
          have r5 := hset.c5
          have r6 := hset.c6
          refine bodyPost_ret (v := .agg #[.int .i64 2, .string (s.extract a k), .int .i64 0, .bool false, .int .i64 0, .int .i64 ((k : Int)), .int .i64 0]) (by simp [results, Tryz.results67, go_sem, r0, r1, r2, r3, r4, r5, r6]) rfl ⟨below_gotSet HB.out (Nat.le_refl _) _ _ _ _ _ _ _, ?_⟩
          rw [HQ.out, if_neg h32]
          show _ = Ending.returned (.agg #[.int .i64 2, .string (bs ((s.data.toList.drop a).takeWhile (ofB wrdI))), .int .i64 0, .bool false, .int .i64 0, .int .i64 ((s.size - (s.data.toList.drop k).length : Nat) : Int), .int .i64 0])
          rw [HX.out, drop_len HTL.out.2]
set_option maxRecDepth 100000 in
set_option maxHeartbeats 16000000 in
theorem rone_61_y (s : ByteArray) (a : Nat) (w : World) (ha : a < s.size) (hs : s.size ≤ 65536) (hn : a + 1 < s.size) (hc : (s[a]'ha) = 61) :
    Calls Tryz.prog 67 #[.string s, .int .i64 (a : Int)] w fun e w' => Below w.heap.size w w' ∧ e = .returned (gotV s.size (oneL (s[a]'ha) (s.data.toList.drop (a + 1)))) := by
  have HG := Lib.hid (IsGot.new (v0 := .int .i64 0) (v1 := .string ⟨#[]⟩) (v2 := .int .i64 0) (v3 := .bool false) (v4 := .int .i64 0) (v5 := .int .i64 0) (v6 := .int .i64 0) w)
  have HB := Lib.hid ((Below.refl w.heap.size w).alloc (Nat.le_refl _) (.cells #[.int .i64 0, .string ⟨#[]⟩, .int .i64 0, .bool false, .int .i64 0, .int .i64 0, .int .i64 0] 115))
  have hnd : decide ((a : Int) + 1 < (s.size : Int)) = true := decide_eq_true (by omega)
  have hsm : sml ((s[a]'ha).toNat : Int) = false := by rw [hc]; rfl
  have hbg : bgI ((s[a]'ha).toNat : Int) = false := by rw [hc]; rfl
  have hfg : figI ((s[a]'ha).toNat : Int) = false := by rw [hc]; rfl
  have hcv : ((s[a]'ha).toNat : Int) = 61 := by rw [hc]; rfl
  have hsm' : sml 61 = false := rfl
  have hbg' : bgI 61 = false := rfl
  have hfg' : figI 61 = false := rfl
  have HM := Lib.hid (show markTwo (61 :: s.data.toList.drop (a + 1)) = false from by simp [markTwo, List.isPrefixOf])
  go_enter Tryz.func67, Tryz.ntmps67
  have k0 := HG.out.c0; have k1 := HG.out.c1; have k2 := HG.out.c2; have k3 := HG.out.c3; have k4 := HG.out.c4; have k5 := HG.out.c5; have k6 := HG.out.c6
  have l0 := HG.out.fr 0; have l1 := HG.out.fr 1; have l2 := HG.out.fr 2; have l3 := HG.out.fr 3; have l4 := HG.out.fr 4; have l5 := HG.out.fr 5; have l6 := HG.out.fr 6
  go_wp2_with (first
    | (go_at_call 97; with_reducible refine (rsmall5_calls _ _).mono ?_; rintro e w' ⟨rfl, rfl⟩; first | rw [hsm] | rw [hsm'])
    | (go_at_call 98; with_reducible refine (rbig5_calls _ _).mono ?_; rintro e w' ⟨rfl, rfl⟩; first | rw [hbg] | rw [hbg'])
    | (go_at_call 100; with_reducible refine (rfig5_calls _ _).mono ?_; rintro e w' ⟨rfl, rfl⟩; first | rw [hfg] | rw [hfg'] | rw [hfn] | rw [show figI 0 = false from rfl]))
  refine bodyPost_ret (v := .agg #[.int .i64 4, .string (s.extract a (a + 1)), .int .i64 0, .bool false, .int .i64 0, .int .i64 ((a : Int) + 1), .int .i64 0]) (by simp [results, Tryz.results67, go_sem]) rfl ⟨(Below.refl w.heap.size w).alloc (Nat.le_refl _) _, ?_⟩
  rw [hc, oneL_markc (by decide) (by decide) (by decide) (by decide) (by decide), markL_one 61 _ (HM.out) (by decide), ext_one ha, hc]
  show _ = Ending.returned (.agg #[.int .i64 4, .string (bs [61]), .int .i64 0, .bool false, .int .i64 0, .int .i64 ((s.size - (s.data.toList.drop (a + 1)).length : Nat) : Int), .int .i64 0])
  rw [drop_len (show a + 1 ≤ s.size by omega)]
  rfl
set_option maxRecDepth 100000 in
set_option maxHeartbeats 16000000 in
theorem rone_62one_y (s : ByteArray) (a : Nat) (w : World) (ha : a < s.size) (hs : s.size ≤ 65536) (hn : a + 1 < s.size) (hc : (s[a]'ha) = 62) (hnx : (((s[a + 1]'hn).toNat : Int) == 61) = false) :
    Calls Tryz.prog 67 #[.string s, .int .i64 (a : Int)] w fun e w' => Below w.heap.size w w' ∧ e = .returned (gotV s.size (oneL (s[a]'ha) (s.data.toList.drop (a + 1)))) := by
  have HG := Lib.hid (IsGot.new (v0 := .int .i64 0) (v1 := .string ⟨#[]⟩) (v2 := .int .i64 0) (v3 := .bool false) (v4 := .int .i64 0) (v5 := .int .i64 0) (v6 := .int .i64 0) w)
  have HB := Lib.hid ((Below.refl w.heap.size w).alloc (Nat.le_refl _) (.cells #[.int .i64 0, .string ⟨#[]⟩, .int .i64 0, .bool false, .int .i64 0, .int .i64 0, .int .i64 0] 115))
  have hnd : decide ((a : Int) + 1 < (s.size : Int)) = true := decide_eq_true (by omega)
  have hsm : sml ((s[a]'ha).toNat : Int) = false := by rw [hc]; rfl
  have hbg : bgI ((s[a]'ha).toNat : Int) = false := by rw [hc]; rfl
  have hfg : figI ((s[a]'ha).toNat : Int) = false := by rw [hc]; rfl
  have hcv : ((s[a]'ha).toNat : Int) = 62 := by rw [hc]; rfl
  have hsm' : sml 62 = false := rfl
  have hbg' : bgI 62 = false := rfl
  have hfg' : figI 62 = false := rfl
  have HM := Lib.hid (show markTwo (62 :: s.data.toList.drop (a + 1)) = false from by rw [drop_at hn]; have h := byteNot (d := 61) hnx (by decide); simp [markTwo, List.isPrefixOf] ; simpa using fun e => by rw [← e] at h; simp at h)
  go_enter Tryz.func67, Tryz.ntmps67
  have k0 := HG.out.c0; have k1 := HG.out.c1; have k2 := HG.out.c2; have k3 := HG.out.c3; have k4 := HG.out.c4; have k5 := HG.out.c5; have k6 := HG.out.c6
  have l0 := HG.out.fr 0; have l1 := HG.out.fr 1; have l2 := HG.out.fr 2; have l3 := HG.out.fr 3; have l4 := HG.out.fr 4; have l5 := HG.out.fr 5; have l6 := HG.out.fr 6
  go_wp2_with (first
    | (go_at_call 97; with_reducible refine (rsmall5_calls _ _).mono ?_; rintro e w' ⟨rfl, rfl⟩; first | rw [hsm] | rw [hsm'])
    | (go_at_call 98; with_reducible refine (rbig5_calls _ _).mono ?_; rintro e w' ⟨rfl, rfl⟩; first | rw [hbg] | rw [hbg'])
    | (go_at_call 100; with_reducible refine (rfig5_calls _ _).mono ?_; rintro e w' ⟨rfl, rfl⟩; first | rw [hfg] | rw [hfg'] | rw [hfn] | rw [show figI 0 = false from rfl]))
  refine bodyPost_ret (v := .agg #[.int .i64 4, .string (s.extract a (a + 1)), .int .i64 0, .bool false, .int .i64 0, .int .i64 ((a : Int) + 1), .int .i64 0]) (by simp [results, Tryz.results67, go_sem]) rfl ⟨(Below.refl w.heap.size w).alloc (Nat.le_refl _) _, ?_⟩
  rw [hc, oneL_markc (by decide) (by decide) (by decide) (by decide) (by decide), markL_one 62 _ (HM.out) (by decide), ext_one ha, hc]
  show _ = Ending.returned (.agg #[.int .i64 4, .string (bs [62]), .int .i64 0, .bool false, .int .i64 0, .int .i64 ((s.size - (s.data.toList.drop (a + 1)).length : Nat) : Int), .int .i64 0])
  rw [drop_len (show a + 1 ≤ s.size by omega)]
  rfl
set_option maxRecDepth 100000 in
set_option maxHeartbeats 16000000 in
theorem rone_quot_n (s : ByteArray) (a : Nat) (w : World) (ha : a < s.size) (hs : s.size ≤ 65536) (hn : ¬ a + 1 < s.size) (hc : (s[a]'ha) = 39) :
    Calls Tryz.prog 67 #[.string s, .int .i64 (a : Int)] w fun e w' => Below w.heap.size w w' ∧ e = .returned (gotV s.size (oneL (s[a]'ha) (s.data.toList.drop (a + 1)))) := by
  have HG := Lib.hid (IsGot.new (v0 := .int .i64 0) (v1 := .string ⟨#[]⟩) (v2 := .int .i64 0) (v3 := .bool false) (v4 := .int .i64 0) (v5 := .int .i64 0) (v6 := .int .i64 0) w)
  have HB := Lib.hid ((Below.refl w.heap.size w).alloc (Nat.le_refl _) (.cells #[.int .i64 0, .string ⟨#[]⟩, .int .i64 0, .bool false, .int .i64 0, .int .i64 0, .int .i64 0] 115))
  have hnd : decide ((a : Int) + 1 < (s.size : Int)) = false := decide_eq_false (by omega)
  have hsm : sml ((s[a]'ha).toNat : Int) = false := by rw [hc]; rfl
  have hbg : bgI ((s[a]'ha).toNat : Int) = false := by rw [hc]; rfl
  have hfg : figI ((s[a]'ha).toNat : Int) = false := by rw [hc]; rfl
  have hcv : ((s[a]'ha).toNat : Int) = 39 := by rw [hc]; rfl
  have hsm' : sml 39 = false := rfl
  have hbg' : bgI 39 = false := rfl
  have hfg' : figI 39 = false := rfl
  obtain ⟨v0, v1, v2, v3, v4, v5, v6, hv⟩ := gotV_form s.size (qres (quotL (s.data.toList.drop (a + 1))))
  have HV := Lib.hid hv
  have HC := Lib.hid (fun (W : World) => (show Calls Tryz.prog 102 #[.string s, .int .i64 ((a : Int) + 1)] W (fun e w' => Below W.heap.size W w' ∧ e = .returned (.agg #[.int .i64 v0, .string v1, .int .i64 v2, .bool v3, .int .i64 v4, .int .i64 v5, .int .i64 v6])) from by rw [← HV.out]; exact rquoted_calls s (a + 1) W ha hs))
  clear hv
  go_enter Tryz.func67, Tryz.ntmps67
  have k0 := HG.out.c0; have k1 := HG.out.c1; have k2 := HG.out.c2; have k3 := HG.out.c3; have k4 := HG.out.c4; have k5 := HG.out.c5; have k6 := HG.out.c6
  have l0 := HG.out.fr 0; have l1 := HG.out.fr 1; have l2 := HG.out.fr 2; have l3 := HG.out.fr 3; have l4 := HG.out.fr 4; have l5 := HG.out.fr 5; have l6 := HG.out.fr 6
  go_wp2_with (first
    | (go_at_call 97; with_reducible refine (rsmall5_calls _ _).mono ?_; rintro e w' ⟨rfl, rfl⟩; first | rw [hsm] | rw [hsm'])
    | (go_at_call 98; with_reducible refine (rbig5_calls _ _).mono ?_; rintro e w' ⟨rfl, rfl⟩; first | rw [hbg] | rw [hbg'])
    | (go_at_call 100; with_reducible refine (rfig5_calls _ _).mono ?_; rintro e w' ⟨rfl, rfl⟩; first | rw [hfg] | rw [hfg'] | rw [hfn] | rw [show figI 0 = false from rfl])
    | (go_at_call 102; ((with_reducible refine (HC.out _).mono ?_); rintro e w2 ⟨hb2, rfl⟩; have hG2 := HG.out.below hb2; have g0 := hG2.c0; have g1 := hG2.c1; have g2 := hG2.c2; have g3 := hG2.c3; have g4 := hG2.c4; have g5 := hG2.c5; have g6 := hG2.c6; have m0 := hG2.fr 0; have m1 := hG2.fr 1; have m2 := hG2.fr 2; have m3 := hG2.fr 3; have m4 := hG2.fr 4; have m5 := hG2.fr 5; have m6 := hG2.fr 6; have HG2 := Lib.hid hG2; have HB2 := Lib.hid (HB.out.trans (hb2.mono HB.out.size)); clear hb2 hG2)))
  have hset := HG2.out.set (.int .i64 v0) (.string v1) (.int .i64 v2) (.bool v3) (.int .i64 v4) (.int .i64 v5) (.int .i64 v6)
  have r0 := hset.c0
  have r1 := hset.c1
  have r2 := hset.c2
  have r3 := hset.c3
  have r4 := hset.c4
  have r5 := hset.c5
  have r6 := hset.c6
  refine bodyPost_ret (v := .agg #[.int .i64 v0, .string v1, .int .i64 v2, .bool v3, .int .i64 v4, .int .i64 v5, .int .i64 v6]) (by simp [results, Tryz.results67, go_sem, r0, r1, r2, r3, r4, r5, r6]) rfl ⟨below_gotSet HB2.out (Nat.le_refl _) _ _ _ _ _ _ _, ?_⟩
  rw [hc, oneL_quot, HV.out]
set_option maxRecDepth 100000 in
set_option maxHeartbeats 16000000 in
theorem rone_61_n (s : ByteArray) (a : Nat) (w : World) (ha : a < s.size) (hs : s.size ≤ 65536) (hn : ¬ a + 1 < s.size) (hc : (s[a]'ha) = 61) :
    Calls Tryz.prog 67 #[.string s, .int .i64 (a : Int)] w fun e w' => Below w.heap.size w w' ∧ e = .returned (gotV s.size (oneL (s[a]'ha) (s.data.toList.drop (a + 1)))) := by
  have HG := Lib.hid (IsGot.new (v0 := .int .i64 0) (v1 := .string ⟨#[]⟩) (v2 := .int .i64 0) (v3 := .bool false) (v4 := .int .i64 0) (v5 := .int .i64 0) (v6 := .int .i64 0) w)
  have HB := Lib.hid ((Below.refl w.heap.size w).alloc (Nat.le_refl _) (.cells #[.int .i64 0, .string ⟨#[]⟩, .int .i64 0, .bool false, .int .i64 0, .int .i64 0, .int .i64 0] 115))
  have hnd : decide ((a : Int) + 1 < (s.size : Int)) = false := decide_eq_false (by omega)
  have hsm : sml ((s[a]'ha).toNat : Int) = false := by rw [hc]; rfl
  have hbg : bgI ((s[a]'ha).toNat : Int) = false := by rw [hc]; rfl
  have hfg : figI ((s[a]'ha).toNat : Int) = false := by rw [hc]; rfl
  have hcv : ((s[a]'ha).toNat : Int) = 61 := by rw [hc]; rfl
  have hsm' : sml 61 = false := rfl
  have hbg' : bgI 61 = false := rfl
  have hfg' : figI 61 = false := rfl
  have HM := Lib.hid (show markTwo (61 :: s.data.toList.drop (a + 1)) = false from by simp [markTwo, List.isPrefixOf])
  go_enter Tryz.func67, Tryz.ntmps67
  have k0 := HG.out.c0; have k1 := HG.out.c1; have k2 := HG.out.c2; have k3 := HG.out.c3; have k4 := HG.out.c4; have k5 := HG.out.c5; have k6 := HG.out.c6
  have l0 := HG.out.fr 0; have l1 := HG.out.fr 1; have l2 := HG.out.fr 2; have l3 := HG.out.fr 3; have l4 := HG.out.fr 4; have l5 := HG.out.fr 5; have l6 := HG.out.fr 6
  go_wp2_with (first
    | (go_at_call 97; with_reducible refine (rsmall5_calls _ _).mono ?_; rintro e w' ⟨rfl, rfl⟩; first | rw [hsm] | rw [hsm'])
    | (go_at_call 98; with_reducible refine (rbig5_calls _ _).mono ?_; rintro e w' ⟨rfl, rfl⟩; first | rw [hbg] | rw [hbg'])
    | (go_at_call 100; with_reducible refine (rfig5_calls _ _).mono ?_; rintro e w' ⟨rfl, rfl⟩; first | rw [hfg] | rw [hfg'] | rw [hfn] | rw [show figI 0 = false from rfl]))
  refine bodyPost_ret (v := .agg #[.int .i64 4, .string (s.extract a (a + 1)), .int .i64 0, .bool false, .int .i64 0, .int .i64 ((a : Int) + 1), .int .i64 0]) (by simp [results, Tryz.results67, go_sem]) rfl ⟨(Below.refl w.heap.size w).alloc (Nat.le_refl _) _, ?_⟩
  rw [hc, oneL_markc (by decide) (by decide) (by decide) (by decide) (by decide), markL_one 61 _ (HM.out) (by decide), ext_one ha, hc]
  show _ = Ending.returned (.agg #[.int .i64 4, .string (bs [61]), .int .i64 0, .bool false, .int .i64 0, .int .i64 ((s.size - (s.data.toList.drop (a + 1)).length : Nat) : Int), .int .i64 0])
  rw [drop_len (show a + 1 ≤ s.size by omega)]
  rfl
end Go.Proofs.YtminbdcabacfbaaGreatDoor.V

namespace Go.Proofs.YtminbdcabacfbaaGreatDoor.V
set_option linter.unusedVariables false
set_option linter.unusedSimpArgs false
open Go.RowKit

set_option maxRecDepth 100000 in
set_option maxHeartbeats 16000000 in
theorem rone_fig_y (s : ByteArray) (a : Nat) (w : World) (ha : a < s.size) (hs : s.size ≤ 65536) (hn : a + 1 < s.size) (hsm : sml ((s[a]'ha).toNat : Int) = false) (hbg : bgI ((s[a]'ha).toNat : Int) = false) (hfg : figI ((s[a]'ha).toNat : Int) = true) :
    Calls Tryz.prog 67 #[.string s, .int .i64 (a : Int)] w fun e w' => Below w.heap.size w w' ∧ e = .returned (gotV s.size (oneL (s[a]'ha) (s.data.toList.drop (a + 1)))) := by
  have HG := Lib.hid (IsGot.new (v0 := .int .i64 0) (v1 := .string ⟨#[]⟩) (v2 := .int .i64 0) (v3 := .bool false) (v4 := .int .i64 0) (v5 := .int .i64 0) (v6 := .int .i64 0) w)
  have HB := Lib.hid ((Below.refl w.heap.size w).alloc (Nat.le_refl _) (.cells #[.int .i64 0, .string ⟨#[]⟩, .int .i64 0, .bool false, .int .i64 0, .int .i64 0, .int .i64 0] 115))
  have hnd : decide ((a : Int) + 1 < (s.size : Int)) = true := decide_eq_true (by omega)
  obtain ⟨v0, v1, v2, v3, v4, v5, v6, hv⟩ := gotV_form s.size (numL (s[a]'ha) (s.data.toList.drop (a + 1)))
  have HV := Lib.hid hv
  have HC := Lib.hid (fun (W : World) => (show Calls Tryz.prog 101 #[.string s, .int .i64 (a : Int)] W (fun e w' => Below W.heap.size W w' ∧ e = .returned (.agg #[.int .i64 v0, .string v1, .int .i64 v2, .bool v3, .int .i64 v4, .int .i64 v5, .int .i64 v6])) from by rw [← HV.out]; exact rnum_high s a W ha hs hfg))
  clear hv
  go_enter Tryz.func67, Tryz.ntmps67
  have k0 := HG.out.c0; have k1 := HG.out.c1; have k2 := HG.out.c2; have k3 := HG.out.c3; have k4 := HG.out.c4; have k5 := HG.out.c5; have k6 := HG.out.c6
  have l0 := HG.out.fr 0; have l1 := HG.out.fr 1; have l2 := HG.out.fr 2; have l3 := HG.out.fr 3; have l4 := HG.out.fr 4; have l5 := HG.out.fr 5; have l6 := HG.out.fr 6
  go_wp2_with (first
    | (go_at_call 97; with_reducible refine (rsmall5_calls _ _).mono ?_; rintro e w' ⟨rfl, rfl⟩; first | rw [hsm] | rw [hsm'])
    | (go_at_call 98; with_reducible refine (rbig5_calls _ _).mono ?_; rintro e w' ⟨rfl, rfl⟩; first | rw [hbg] | rw [hbg'])
    | (go_at_call 100; with_reducible refine (rfig5_calls _ _).mono ?_; rintro e w' ⟨rfl, rfl⟩; first | rw [hfg] | rw [hfg'] | rw [hfn] | rw [show figI 0 = false from rfl])
    | (go_at_call 101; ((with_reducible refine (HC.out _).mono ?_); rintro e w2 ⟨hb2, rfl⟩; have hG2 := HG.out.below hb2; have g0 := hG2.c0; have g1 := hG2.c1; have g2 := hG2.c2; have g3 := hG2.c3; have g4 := hG2.c4; have g5 := hG2.c5; have g6 := hG2.c6; have m0 := hG2.fr 0; have m1 := hG2.fr 1; have m2 := hG2.fr 2; have m3 := hG2.fr 3; have m4 := hG2.fr 4; have m5 := hG2.fr 5; have m6 := hG2.fr 6; have HG2 := Lib.hid hG2; have HB2 := Lib.hid (HB.out.trans (hb2.mono HB.out.size)); clear hb2 hG2)))
  have hset := HG2.out.set (.int .i64 v0) (.string v1) (.int .i64 v2) (.bool v3) (.int .i64 v4) (.int .i64 v5) (.int .i64 v6)
  have r0 := hset.c0
  have r1 := hset.c1
  have r2 := hset.c2
  have r3 := hset.c3
  have r4 := hset.c4
  have r5 := hset.c5
  have r6 := hset.c6
  refine bodyPost_ret (v := .agg #[.int .i64 v0, .string v1, .int .i64 v2, .bool v3, .int .i64 v4, .int .i64 v5, .int .i64 v6]) (by simp [results, Tryz.results67, go_sem, r0, r1, r2, r3, r4, r5, r6]) rfl ⟨below_gotSet HB2.out (Nat.le_refl _) _ _ _ _ _ _ _, ?_⟩
  rw [oneL_fig hsm hbg hfg, HV.out]
set_option maxRecDepth 100000 in
set_option maxHeartbeats 16000000 in
theorem rone_lowno_y (s : ByteArray) (a : Nat) (w : World) (ha : a < s.size) (hs : s.size ≤ 65536) (hn : a + 1 < s.size) (hc : (s[a]'ha) = 45) (hfn : figI ((s[a + 1]'hn).toNat : Int) = false) :
    Calls Tryz.prog 67 #[.string s, .int .i64 (a : Int)] w fun e w' => Below w.heap.size w w' ∧ e = .returned (gotV s.size (oneL (s[a]'ha) (s.data.toList.drop (a + 1)))) := by
  have HG := Lib.hid (IsGot.new (v0 := .int .i64 0) (v1 := .string ⟨#[]⟩) (v2 := .int .i64 0) (v3 := .bool false) (v4 := .int .i64 0) (v5 := .int .i64 0) (v6 := .int .i64 0) w)
  have HB := Lib.hid ((Below.refl w.heap.size w).alloc (Nat.le_refl _) (.cells #[.int .i64 0, .string ⟨#[]⟩, .int .i64 0, .bool false, .int .i64 0, .int .i64 0, .int .i64 0] 115))
  have hnd : decide ((a : Int) + 1 < (s.size : Int)) = true := decide_eq_true (by omega)
  have hsm : sml ((s[a]'ha).toNat : Int) = false := by rw [hc]; rfl
  have hbg : bgI ((s[a]'ha).toNat : Int) = false := by rw [hc]; rfl
  have hfg : figI ((s[a]'ha).toNat : Int) = false := by rw [hc]; rfl
  have hcv : ((s[a]'ha).toNat : Int) = 45 := by rw [hc]; rfl
  have hsm' : sml 45 = false := rfl
  have hbg' : bgI 45 = false := rfl
  have hfg' : figI 45 = false := rfl
  go_enter Tryz.func67, Tryz.ntmps67
  have k0 := HG.out.c0; have k1 := HG.out.c1; have k2 := HG.out.c2; have k3 := HG.out.c3; have k4 := HG.out.c4; have k5 := HG.out.c5; have k6 := HG.out.c6
  have l0 := HG.out.fr 0; have l1 := HG.out.fr 1; have l2 := HG.out.fr 2; have l3 := HG.out.fr 3; have l4 := HG.out.fr 4; have l5 := HG.out.fr 5; have l6 := HG.out.fr 6
  go_wp2_with (first
    | (go_at_call 97; with_reducible refine (rsmall5_calls _ _).mono ?_; rintro e w' ⟨rfl, rfl⟩; first | rw [hsm] | rw [hsm'])
    | (go_at_call 98; with_reducible refine (rbig5_calls _ _).mono ?_; rintro e w' ⟨rfl, rfl⟩; first | rw [hbg] | rw [hbg'])
    | (go_at_call 100; with_reducible refine (rfig5_calls _ _).mono ?_; rintro e w' ⟨rfl, rfl⟩; first | rw [hfg] | rw [hfg'] | rw [hfn] | rw [show figI 0 = false from rfl]))
  refine bodyPost_ret (v := .agg #[.int .i64 0, .string ⟨#[]⟩, .int .i64 0, .bool false, .int .i64 0, .int .i64 0, .int .i64 2]) (by simp [results, Tryz.results67, go_sem]) rfl ⟨(Below.refl w.heap.size w).alloc (Nat.le_refl _) _, ?_⟩
  rw [hc, drop_at hn, oneL_low_no hfn]
  rfl
set_option maxRecDepth 100000 in
set_option maxHeartbeats 16000000 in
theorem rone_40_y (s : ByteArray) (a : Nat) (w : World) (ha : a < s.size) (hs : s.size ≤ 65536) (hn : a + 1 < s.size) (hc : (s[a]'ha) = 40) :
    Calls Tryz.prog 67 #[.string s, .int .i64 (a : Int)] w fun e w' => Below w.heap.size w w' ∧ e = .returned (gotV s.size (oneL (s[a]'ha) (s.data.toList.drop (a + 1)))) := by
  have HG := Lib.hid (IsGot.new (v0 := .int .i64 0) (v1 := .string ⟨#[]⟩) (v2 := .int .i64 0) (v3 := .bool false) (v4 := .int .i64 0) (v5 := .int .i64 0) (v6 := .int .i64 0) w)
  have HB := Lib.hid ((Below.refl w.heap.size w).alloc (Nat.le_refl _) (.cells #[.int .i64 0, .string ⟨#[]⟩, .int .i64 0, .bool false, .int .i64 0, .int .i64 0, .int .i64 0] 115))
  have hnd : decide ((a : Int) + 1 < (s.size : Int)) = true := decide_eq_true (by omega)
  have hsm : sml ((s[a]'ha).toNat : Int) = false := by rw [hc]; rfl
  have hbg : bgI ((s[a]'ha).toNat : Int) = false := by rw [hc]; rfl
  have hfg : figI ((s[a]'ha).toNat : Int) = false := by rw [hc]; rfl
  have hcv : ((s[a]'ha).toNat : Int) = 40 := by rw [hc]; rfl
  have hsm' : sml 40 = false := rfl
  have hbg' : bgI 40 = false := rfl
  have hfg' : figI 40 = false := rfl
  have HM := Lib.hid (show markTwo (40 :: s.data.toList.drop (a + 1)) = false from by simp [markTwo, List.isPrefixOf])
  go_enter Tryz.func67, Tryz.ntmps67
  have k0 := HG.out.c0; have k1 := HG.out.c1; have k2 := HG.out.c2; have k3 := HG.out.c3; have k4 := HG.out.c4; have k5 := HG.out.c5; have k6 := HG.out.c6
  have l0 := HG.out.fr 0; have l1 := HG.out.fr 1; have l2 := HG.out.fr 2; have l3 := HG.out.fr 3; have l4 := HG.out.fr 4; have l5 := HG.out.fr 5; have l6 := HG.out.fr 6
  go_wp2_with (first
    | (go_at_call 97; with_reducible refine (rsmall5_calls _ _).mono ?_; rintro e w' ⟨rfl, rfl⟩; first | rw [hsm] | rw [hsm'])
    | (go_at_call 98; with_reducible refine (rbig5_calls _ _).mono ?_; rintro e w' ⟨rfl, rfl⟩; first | rw [hbg] | rw [hbg'])
    | (go_at_call 100; with_reducible refine (rfig5_calls _ _).mono ?_; rintro e w' ⟨rfl, rfl⟩; first | rw [hfg] | rw [hfg'] | rw [hfn] | rw [show figI 0 = false from rfl]))
  refine bodyPost_ret (v := .agg #[.int .i64 4, .string (s.extract a (a + 1)), .int .i64 0, .bool false, .int .i64 0, .int .i64 ((a : Int) + 1), .int .i64 0]) (by simp [results, Tryz.results67, go_sem]) rfl ⟨(Below.refl w.heap.size w).alloc (Nat.le_refl _) _, ?_⟩
  rw [hc, oneL_markc (by decide) (by decide) (by decide) (by decide) (by decide), markL_one 40 _ (HM.out) (by decide), ext_one ha, hc]
  show _ = Ending.returned (.agg #[.int .i64 4, .string (bs [40]), .int .i64 0, .bool false, .int .i64 0, .int .i64 ((s.size - (s.data.toList.drop (a + 1)).length : Nat) : Int), .int .i64 0])
  rw [drop_len (show a + 1 ≤ s.size by omega)]
  rfl
set_option maxRecDepth 100000 in
set_option maxHeartbeats 16000000 in
theorem rone_58two_y (s : ByteArray) (a : Nat) (w : World) (ha : a < s.size) (hs : s.size ≤ 65536) (hn : a + 1 < s.size) (hc : (s[a]'ha) = 58) (hnx : s[a + 1]'hn = 45) :
    Calls Tryz.prog 67 #[.string s, .int .i64 (a : Int)] w fun e w' => Below w.heap.size w w' ∧ e = .returned (gotV s.size (oneL (s[a]'ha) (s.data.toList.drop (a + 1)))) := by
  have HG := Lib.hid (IsGot.new (v0 := .int .i64 0) (v1 := .string ⟨#[]⟩) (v2 := .int .i64 0) (v3 := .bool false) (v4 := .int .i64 0) (v5 := .int .i64 0) (v6 := .int .i64 0) w)
  have HB := Lib.hid ((Below.refl w.heap.size w).alloc (Nat.le_refl _) (.cells #[.int .i64 0, .string ⟨#[]⟩, .int .i64 0, .bool false, .int .i64 0, .int .i64 0, .int .i64 0] 115))
  have hnd : decide ((a : Int) + 1 < (s.size : Int)) = true := decide_eq_true (by omega)
  have hsm : sml ((s[a]'ha).toNat : Int) = false := by rw [hc]; rfl
  have hbg : bgI ((s[a]'ha).toNat : Int) = false := by rw [hc]; rfl
  have hfg : figI ((s[a]'ha).toNat : Int) = false := by rw [hc]; rfl
  have hcv : ((s[a]'ha).toNat : Int) = 58 := by rw [hc]; rfl
  have hsm' : sml 58 = false := rfl
  have hbg' : bgI 58 = false := rfl
  have hfg' : figI 58 = false := rfl
  have hnv : ((s[a + 1]'hn).toNat : Int) = 45 := by rw [hnx]; rfl
  have hfn : figI 45 = false := rfl
  go_enter Tryz.func67, Tryz.ntmps67
  have k0 := HG.out.c0; have k1 := HG.out.c1; have k2 := HG.out.c2; have k3 := HG.out.c3; have k4 := HG.out.c4; have k5 := HG.out.c5; have k6 := HG.out.c6
  have l0 := HG.out.fr 0; have l1 := HG.out.fr 1; have l2 := HG.out.fr 2; have l3 := HG.out.fr 3; have l4 := HG.out.fr 4; have l5 := HG.out.fr 5; have l6 := HG.out.fr 6
  go_wp2_with (first
    | (go_at_call 97; with_reducible refine (rsmall5_calls _ _).mono ?_; rintro e w' ⟨rfl, rfl⟩; first | rw [hsm] | rw [hsm'])
    | (go_at_call 98; with_reducible refine (rbig5_calls _ _).mono ?_; rintro e w' ⟨rfl, rfl⟩; first | rw [hbg] | rw [hbg'])
    | (go_at_call 100; with_reducible refine (rfig5_calls _ _).mono ?_; rintro e w' ⟨rfl, rfl⟩; first | rw [hfg] | rw [hfg'] | rw [hfn] | rw [show figI 0 = false from rfl]))
  refine bodyPost_ret (v := .agg #[.int .i64 4, .string (s.extract a (a + 2)), .int .i64 0, .bool false, .int .i64 0, .int .i64 ((a : Int) + 2), .int .i64 0]) (by simp [results, Tryz.results67, go_sem]) rfl ⟨(Below.refl w.heap.size w).alloc (Nat.le_refl _) _, ?_⟩
  rw [hc, drop_at hn, hnx, oneL_markc (by decide) (by decide) (by decide) (by decide) (by decide), markL_two 58 45 _ (by simp [markTwo, List.isPrefixOf]), ext_two hn, hc, hnx]
  show _ = Ending.returned (.agg #[.int .i64 4, .string (bs [58, 45]), .int .i64 0, .bool false, .int .i64 0, .int .i64 ((s.size - (s.data.toList.drop (a + 1 + 1)).length : Nat) : Int), .int .i64 0])
  rw [drop_len (show a + 1 + 1 ≤ s.size by omega)]
  rfl
set_option maxRecDepth 100000 in
set_option maxHeartbeats 16000000 in
theorem rone_33two_y (s : ByteArray) (a : Nat) (w : World) (ha : a < s.size) (hs : s.size ≤ 65536) (hn : a + 1 < s.size) (hc : (s[a]'ha) = 33) (hnx : s[a + 1]'hn = 61) :
    Calls Tryz.prog 67 #[.string s, .int .i64 (a : Int)] w fun e w' => Below w.heap.size w w' ∧ e = .returned (gotV s.size (oneL (s[a]'ha) (s.data.toList.drop (a + 1)))) := by
  have HG := Lib.hid (IsGot.new (v0 := .int .i64 0) (v1 := .string ⟨#[]⟩) (v2 := .int .i64 0) (v3 := .bool false) (v4 := .int .i64 0) (v5 := .int .i64 0) (v6 := .int .i64 0) w)
  have HB := Lib.hid ((Below.refl w.heap.size w).alloc (Nat.le_refl _) (.cells #[.int .i64 0, .string ⟨#[]⟩, .int .i64 0, .bool false, .int .i64 0, .int .i64 0, .int .i64 0] 115))
  have hnd : decide ((a : Int) + 1 < (s.size : Int)) = true := decide_eq_true (by omega)
  have hsm : sml ((s[a]'ha).toNat : Int) = false := by rw [hc]; rfl
  have hbg : bgI ((s[a]'ha).toNat : Int) = false := by rw [hc]; rfl
  have hfg : figI ((s[a]'ha).toNat : Int) = false := by rw [hc]; rfl
  have hcv : ((s[a]'ha).toNat : Int) = 33 := by rw [hc]; rfl
  have hsm' : sml 33 = false := rfl
  have hbg' : bgI 33 = false := rfl
  have hfg' : figI 33 = false := rfl
  have hnv : ((s[a + 1]'hn).toNat : Int) = 61 := by rw [hnx]; rfl
  have hfn : figI 61 = false := rfl
  go_enter Tryz.func67, Tryz.ntmps67
  have k0 := HG.out.c0; have k1 := HG.out.c1; have k2 := HG.out.c2; have k3 := HG.out.c3; have k4 := HG.out.c4; have k5 := HG.out.c5; have k6 := HG.out.c6
  have l0 := HG.out.fr 0; have l1 := HG.out.fr 1; have l2 := HG.out.fr 2; have l3 := HG.out.fr 3; have l4 := HG.out.fr 4; have l5 := HG.out.fr 5; have l6 := HG.out.fr 6
  go_wp2_with (first
    | (go_at_call 97; with_reducible refine (rsmall5_calls _ _).mono ?_; rintro e w' ⟨rfl, rfl⟩; first | rw [hsm] | rw [hsm'])
    | (go_at_call 98; with_reducible refine (rbig5_calls _ _).mono ?_; rintro e w' ⟨rfl, rfl⟩; first | rw [hbg] | rw [hbg'])
    | (go_at_call 100; with_reducible refine (rfig5_calls _ _).mono ?_; rintro e w' ⟨rfl, rfl⟩; first | rw [hfg] | rw [hfg'] | rw [hfn] | rw [show figI 0 = false from rfl]))
  refine bodyPost_ret (v := .agg #[.int .i64 4, .string (s.extract a (a + 2)), .int .i64 0, .bool false, .int .i64 0, .int .i64 ((a : Int) + 2), .int .i64 0]) (by simp [results, Tryz.results67, go_sem]) rfl ⟨(Below.refl w.heap.size w).alloc (Nat.le_refl _) _, ?_⟩
  rw [hc, drop_at hn, hnx, oneL_markc (by decide) (by decide) (by decide) (by decide) (by decide), markL_two 33 61 _ (by simp [markTwo, List.isPrefixOf]), ext_two hn, hc, hnx]
  show _ = Ending.returned (.agg #[.int .i64 4, .string (bs [33, 61]), .int .i64 0, .bool false, .int .i64 0, .int .i64 ((s.size - (s.data.toList.drop (a + 1 + 1)).length : Nat) : Int), .int .i64 0])
  rw [drop_len (show a + 1 + 1 ≤ s.size by omega)]
  rfl
set_option maxRecDepth 100000 in
set_option maxHeartbeats 16000000 in
theorem rone_40_n (s : ByteArray) (a : Nat) (w : World) (ha : a < s.size) (hs : s.size ≤ 65536) (hn : ¬ a + 1 < s.size) (hc : (s[a]'ha) = 40) :
    Calls Tryz.prog 67 #[.string s, .int .i64 (a : Int)] w fun e w' => Below w.heap.size w w' ∧ e = .returned (gotV s.size (oneL (s[a]'ha) (s.data.toList.drop (a + 1)))) := by
  have HG := Lib.hid (IsGot.new (v0 := .int .i64 0) (v1 := .string ⟨#[]⟩) (v2 := .int .i64 0) (v3 := .bool false) (v4 := .int .i64 0) (v5 := .int .i64 0) (v6 := .int .i64 0) w)
  have HB := Lib.hid ((Below.refl w.heap.size w).alloc (Nat.le_refl _) (.cells #[.int .i64 0, .string ⟨#[]⟩, .int .i64 0, .bool false, .int .i64 0, .int .i64 0, .int .i64 0] 115))
  have hnd : decide ((a : Int) + 1 < (s.size : Int)) = false := decide_eq_false (by omega)
  have hsm : sml ((s[a]'ha).toNat : Int) = false := by rw [hc]; rfl
  have hbg : bgI ((s[a]'ha).toNat : Int) = false := by rw [hc]; rfl
  have hfg : figI ((s[a]'ha).toNat : Int) = false := by rw [hc]; rfl
  have hcv : ((s[a]'ha).toNat : Int) = 40 := by rw [hc]; rfl
  have hsm' : sml 40 = false := rfl
  have hbg' : bgI 40 = false := rfl
  have hfg' : figI 40 = false := rfl
  have HM := Lib.hid (show markTwo (40 :: s.data.toList.drop (a + 1)) = false from by simp [markTwo, List.isPrefixOf])
  go_enter Tryz.func67, Tryz.ntmps67
  have k0 := HG.out.c0; have k1 := HG.out.c1; have k2 := HG.out.c2; have k3 := HG.out.c3; have k4 := HG.out.c4; have k5 := HG.out.c5; have k6 := HG.out.c6
  have l0 := HG.out.fr 0; have l1 := HG.out.fr 1; have l2 := HG.out.fr 2; have l3 := HG.out.fr 3; have l4 := HG.out.fr 4; have l5 := HG.out.fr 5; have l6 := HG.out.fr 6
  go_wp2_with (first
    | (go_at_call 97; with_reducible refine (rsmall5_calls _ _).mono ?_; rintro e w' ⟨rfl, rfl⟩; first | rw [hsm] | rw [hsm'])
    | (go_at_call 98; with_reducible refine (rbig5_calls _ _).mono ?_; rintro e w' ⟨rfl, rfl⟩; first | rw [hbg] | rw [hbg'])
    | (go_at_call 100; with_reducible refine (rfig5_calls _ _).mono ?_; rintro e w' ⟨rfl, rfl⟩; first | rw [hfg] | rw [hfg'] | rw [hfn] | rw [show figI 0 = false from rfl]))
  refine bodyPost_ret (v := .agg #[.int .i64 4, .string (s.extract a (a + 1)), .int .i64 0, .bool false, .int .i64 0, .int .i64 ((a : Int) + 1), .int .i64 0]) (by simp [results, Tryz.results67, go_sem]) rfl ⟨(Below.refl w.heap.size w).alloc (Nat.le_refl _) _, ?_⟩
  rw [hc, oneL_markc (by decide) (by decide) (by decide) (by decide) (by decide), markL_one 40 _ (HM.out) (by decide), ext_one ha, hc]
  show _ = Ending.returned (.agg #[.int .i64 4, .string (bs [40]), .int .i64 0, .bool false, .int .i64 0, .int .i64 ((s.size - (s.data.toList.drop (a + 1)).length : Nat) : Int), .int .i64 0])
  rw [drop_len (show a + 1 ≤ s.size by omega)]
  rfl
set_option maxRecDepth 100000 in
set_option maxHeartbeats 16000000 in
theorem rone_58one_n (s : ByteArray) (a : Nat) (w : World) (ha : a < s.size) (hs : s.size ≤ 65536) (hn : ¬ a + 1 < s.size) (hc : (s[a]'ha) = 58) :
    Calls Tryz.prog 67 #[.string s, .int .i64 (a : Int)] w fun e w' => Below w.heap.size w w' ∧ e = .returned (gotV s.size (oneL (s[a]'ha) (s.data.toList.drop (a + 1)))) := by
  have HG := Lib.hid (IsGot.new (v0 := .int .i64 0) (v1 := .string ⟨#[]⟩) (v2 := .int .i64 0) (v3 := .bool false) (v4 := .int .i64 0) (v5 := .int .i64 0) (v6 := .int .i64 0) w)
  have HB := Lib.hid ((Below.refl w.heap.size w).alloc (Nat.le_refl _) (.cells #[.int .i64 0, .string ⟨#[]⟩, .int .i64 0, .bool false, .int .i64 0, .int .i64 0, .int .i64 0] 115))
  have hnd : decide ((a : Int) + 1 < (s.size : Int)) = false := decide_eq_false (by omega)
  have hsm : sml ((s[a]'ha).toNat : Int) = false := by rw [hc]; rfl
  have hbg : bgI ((s[a]'ha).toNat : Int) = false := by rw [hc]; rfl
  have hfg : figI ((s[a]'ha).toNat : Int) = false := by rw [hc]; rfl
  have hcv : ((s[a]'ha).toNat : Int) = 58 := by rw [hc]; rfl
  have hsm' : sml 58 = false := rfl
  have hbg' : bgI 58 = false := rfl
  have hfg' : figI 58 = false := rfl
  have HM := Lib.hid (show markTwo (58 :: s.data.toList.drop (a + 1)) = false from by rw [drop_end (by omega)]; simp [markTwo, List.isPrefixOf])
  go_enter Tryz.func67, Tryz.ntmps67
  have k0 := HG.out.c0; have k1 := HG.out.c1; have k2 := HG.out.c2; have k3 := HG.out.c3; have k4 := HG.out.c4; have k5 := HG.out.c5; have k6 := HG.out.c6
  have l0 := HG.out.fr 0; have l1 := HG.out.fr 1; have l2 := HG.out.fr 2; have l3 := HG.out.fr 3; have l4 := HG.out.fr 4; have l5 := HG.out.fr 5; have l6 := HG.out.fr 6
  go_wp2_with (first
    | (go_at_call 97; with_reducible refine (rsmall5_calls _ _).mono ?_; rintro e w' ⟨rfl, rfl⟩; first | rw [hsm] | rw [hsm'])
    | (go_at_call 98; with_reducible refine (rbig5_calls _ _).mono ?_; rintro e w' ⟨rfl, rfl⟩; first | rw [hbg] | rw [hbg'])
    | (go_at_call 100; with_reducible refine (rfig5_calls _ _).mono ?_; rintro e w' ⟨rfl, rfl⟩; first | rw [hfg] | rw [hfg'] | rw [hfn] | rw [show figI 0 = false from rfl]))
  refine bodyPost_ret (v := .agg #[.int .i64 0, .string ⟨#[]⟩, .int .i64 0, .bool false, .int .i64 0, .int .i64 0, .int .i64 2]) (by simp [results, Tryz.results67, go_sem]) rfl ⟨(Below.refl w.heap.size w).alloc (Nat.le_refl _) _, ?_⟩
  rw [hc, oneL_markc (by decide) (by decide) (by decide) (by decide) (by decide), markL_none 58 _ HM.out (by decide)]
  rfl
end Go.Proofs.YtminbdcabacfbaaGreatDoor.V

namespace Go.Proofs.YtminbdcabacfbaaGreatDoor.V
set_option linter.unusedVariables false
set_option linter.unusedSimpArgs false
open Go.RowKit

set_option maxRecDepth 100000 in
set_option maxHeartbeats 16000000 in
theorem rone_low_y (s : ByteArray) (a : Nat) (w : World) (ha : a < s.size) (hs : s.size ≤ 65536) (hn : a + 1 < s.size) (hc : (s[a]'ha) = 45) (hfn : figI ((s[a + 1]'hn).toNat : Int) = true) :
    Calls Tryz.prog 67 #[.string s, .int .i64 (a : Int)] w fun e w' => Below w.heap.size w w' ∧ e = .returned (gotV s.size (oneL (s[a]'ha) (s.data.toList.drop (a + 1)))) := by
  have HG := Lib.hid (IsGot.new (v0 := .int .i64 0) (v1 := .string ⟨#[]⟩) (v2 := .int .i64 0) (v3 := .bool false) (v4 := .int .i64 0) (v5 := .int .i64 0) (v6 := .int .i64 0) w)
  have HB := Lib.hid ((Below.refl w.heap.size w).alloc (Nat.le_refl _) (.cells #[.int .i64 0, .string ⟨#[]⟩, .int .i64 0, .bool false, .int .i64 0, .int .i64 0, .int .i64 0] 115))
  have hnd : decide ((a : Int) + 1 < (s.size : Int)) = true := decide_eq_true (by omega)
  have hsm : sml ((s[a]'ha).toNat : Int) = false := by rw [hc]; rfl
  have hbg : bgI ((s[a]'ha).toNat : Int) = false := by rw [hc]; rfl
  have hfg : figI ((s[a]'ha).toNat : Int) = false := by rw [hc]; rfl
  have hcv : ((s[a]'ha).toNat : Int) = 45 := by rw [hc]; rfl
  have hsm' : sml 45 = false := rfl
  have hbg' : bgI 45 = false := rfl
  have hfg' : figI 45 = false := rfl
  have hne : (s.data.toList.drop (a + 1)).takeWhile (ofB figI) ≠ [] := by rw [drop_at hn, List.takeWhile_cons_of_pos (show ofB figI (s[a + 1]'hn) = true from hfn)]; simp
  obtain ⟨v0, v1, v2, v3, v4, v5, v6, hv⟩ := gotV_form s.size (numL 45 (s.data.toList.drop (a + 1)))
  have HV := Lib.hid hv
  have HC := Lib.hid (fun (W : World) => (show Calls Tryz.prog 101 #[.string s, .int .i64 (a : Int)] W (fun e w' => Below W.heap.size W w' ∧ e = .returned (.agg #[.int .i64 v0, .string v1, .int .i64 v2, .bool v3, .int .i64 v4, .int .i64 v5, .int .i64 v6])) from by rw [← HV.out]; exact rnum_low s a W ha hs hc hne))
  clear hv
  go_enter Tryz.func67, Tryz.ntmps67
  have k0 := HG.out.c0; have k1 := HG.out.c1; have k2 := HG.out.c2; have k3 := HG.out.c3; have k4 := HG.out.c4; have k5 := HG.out.c5; have k6 := HG.out.c6
  have l0 := HG.out.fr 0; have l1 := HG.out.fr 1; have l2 := HG.out.fr 2; have l3 := HG.out.fr 3; have l4 := HG.out.fr 4; have l5 := HG.out.fr 5; have l6 := HG.out.fr 6
  go_wp2_with (first
    | (go_at_call 97; with_reducible refine (rsmall5_calls _ _).mono ?_; rintro e w' ⟨rfl, rfl⟩; first | rw [hsm] | rw [hsm'])
    | (go_at_call 98; with_reducible refine (rbig5_calls _ _).mono ?_; rintro e w' ⟨rfl, rfl⟩; first | rw [hbg] | rw [hbg'])
    | (go_at_call 100; with_reducible refine (rfig5_calls _ _).mono ?_; rintro e w' ⟨rfl, rfl⟩; first | rw [hfg] | rw [hfg'] | rw [hfn] | rw [show figI 0 = false from rfl])
    | (go_at_call 101; ((with_reducible refine (HC.out _).mono ?_); rintro e w2 ⟨hb2, rfl⟩; have hG2 := HG.out.below hb2; have g0 := hG2.c0; have g1 := hG2.c1; have g2 := hG2.c2; have g3 := hG2.c3; have g4 := hG2.c4; have g5 := hG2.c5; have g6 := hG2.c6; have m0 := hG2.fr 0; have m1 := hG2.fr 1; have m2 := hG2.fr 2; have m3 := hG2.fr 3; have m4 := hG2.fr 4; have m5 := hG2.fr 5; have m6 := hG2.fr 6; have HG2 := Lib.hid hG2; have HB2 := Lib.hid (HB.out.trans (hb2.mono HB.out.size)); clear hb2 hG2)))
  have hset := HG2.out.set (.int .i64 v0) (.string v1) (.int .i64 v2) (.bool v3) (.int .i64 v4) (.int .i64 v5) (.int .i64 v6)
  have r0 := hset.c0
  have r1 := hset.c1
  have r2 := hset.c2
  have r3 := hset.c3
  have r4 := hset.c4
  have r5 := hset.c5
  have r6 := hset.c6
  refine bodyPost_ret (v := .agg #[.int .i64 v0, .string v1, .int .i64 v2, .bool v3, .int .i64 v4, .int .i64 v5, .int .i64 v6]) (by simp [results, Tryz.results67, go_sem, r0, r1, r2, r3, r4, r5, r6]) rfl ⟨below_gotSet HB2.out (Nat.le_refl _) _ _ _ _ _ _ _, ?_⟩
  rw [hc, ← HV.out, drop_at hn, oneL_low hfn]
set_option maxRecDepth 100000 in
set_option maxHeartbeats 16000000 in
theorem rone_quot_y (s : ByteArray) (a : Nat) (w : World) (ha : a < s.size) (hs : s.size ≤ 65536) (hn : a + 1 < s.size) (hc : (s[a]'ha) = 39) :
    Calls Tryz.prog 67 #[.string s, .int .i64 (a : Int)] w fun e w' => Below w.heap.size w w' ∧ e = .returned (gotV s.size (oneL (s[a]'ha) (s.data.toList.drop (a + 1)))) := by
  have HG := Lib.hid (IsGot.new (v0 := .int .i64 0) (v1 := .string ⟨#[]⟩) (v2 := .int .i64 0) (v3 := .bool false) (v4 := .int .i64 0) (v5 := .int .i64 0) (v6 := .int .i64 0) w)
  have HB := Lib.hid ((Below.refl w.heap.size w).alloc (Nat.le_refl _) (.cells #[.int .i64 0, .string ⟨#[]⟩, .int .i64 0, .bool false, .int .i64 0, .int .i64 0, .int .i64 0] 115))
  have hnd : decide ((a : Int) + 1 < (s.size : Int)) = true := decide_eq_true (by omega)
  have hsm : sml ((s[a]'ha).toNat : Int) = false := by rw [hc]; rfl
  have hbg : bgI ((s[a]'ha).toNat : Int) = false := by rw [hc]; rfl
  have hfg : figI ((s[a]'ha).toNat : Int) = false := by rw [hc]; rfl
  have hcv : ((s[a]'ha).toNat : Int) = 39 := by rw [hc]; rfl
  have hsm' : sml 39 = false := rfl
  have hbg' : bgI 39 = false := rfl
  have hfg' : figI 39 = false := rfl
  obtain ⟨v0, v1, v2, v3, v4, v5, v6, hv⟩ := gotV_form s.size (qres (quotL (s.data.toList.drop (a + 1))))
  have HV := Lib.hid hv
  have HC := Lib.hid (fun (W : World) => (show Calls Tryz.prog 102 #[.string s, .int .i64 ((a : Int) + 1)] W (fun e w' => Below W.heap.size W w' ∧ e = .returned (.agg #[.int .i64 v0, .string v1, .int .i64 v2, .bool v3, .int .i64 v4, .int .i64 v5, .int .i64 v6])) from by rw [← HV.out]; exact rquoted_calls s (a + 1) W ha hs))
  clear hv
  go_enter Tryz.func67, Tryz.ntmps67
  have k0 := HG.out.c0; have k1 := HG.out.c1; have k2 := HG.out.c2; have k3 := HG.out.c3; have k4 := HG.out.c4; have k5 := HG.out.c5; have k6 := HG.out.c6
  have l0 := HG.out.fr 0; have l1 := HG.out.fr 1; have l2 := HG.out.fr 2; have l3 := HG.out.fr 3; have l4 := HG.out.fr 4; have l5 := HG.out.fr 5; have l6 := HG.out.fr 6
  go_wp2_with (first
    | (go_at_call 97; with_reducible refine (rsmall5_calls _ _).mono ?_; rintro e w' ⟨rfl, rfl⟩; first | rw [hsm] | rw [hsm'])
    | (go_at_call 98; with_reducible refine (rbig5_calls _ _).mono ?_; rintro e w' ⟨rfl, rfl⟩; first | rw [hbg] | rw [hbg'])
    | (go_at_call 100; with_reducible refine (rfig5_calls _ _).mono ?_; rintro e w' ⟨rfl, rfl⟩; first | rw [hfg] | rw [hfg'] | rw [hfn] | rw [show figI 0 = false from rfl])
    | (go_at_call 102; ((with_reducible refine (HC.out _).mono ?_); rintro e w2 ⟨hb2, rfl⟩; have hG2 := HG.out.below hb2; have g0 := hG2.c0; have g1 := hG2.c1; have g2 := hG2.c2; have g3 := hG2.c3; have g4 := hG2.c4; have g5 := hG2.c5; have g6 := hG2.c6; have m0 := hG2.fr 0; have m1 := hG2.fr 1; have m2 := hG2.fr 2; have m3 := hG2.fr 3; have m4 := hG2.fr 4; have m5 := hG2.fr 5; have m6 := hG2.fr 6; have HG2 := Lib.hid hG2; have HB2 := Lib.hid (HB.out.trans (hb2.mono HB.out.size)); clear hb2 hG2)))
  have hset := HG2.out.set (.int .i64 v0) (.string v1) (.int .i64 v2) (.bool v3) (.int .i64 v4) (.int .i64 v5) (.int .i64 v6)
  have r0 := hset.c0
  have r1 := hset.c1
  have r2 := hset.c2
  have r3 := hset.c3
  have r4 := hset.c4
  have r5 := hset.c5
  have r6 := hset.c6
  refine bodyPost_ret (v := .agg #[.int .i64 v0, .string v1, .int .i64 v2, .bool v3, .int .i64 v4, .int .i64 v5, .int .i64 v6]) (by simp [results, Tryz.results67, go_sem, r0, r1, r2, r3, r4, r5, r6]) rfl ⟨below_gotSet HB2.out (Nat.le_refl _) _ _ _ _ _ _ _, ?_⟩
  rw [hc, oneL_quot, HV.out]
set_option maxRecDepth 100000 in
set_option maxHeartbeats 16000000 in
theorem rone_41_y (s : ByteArray) (a : Nat) (w : World) (ha : a < s.size) (hs : s.size ≤ 65536) (hn : a + 1 < s.size) (hc : (s[a]'ha) = 41) :
    Calls Tryz.prog 67 #[.string s, .int .i64 (a : Int)] w fun e w' => Below w.heap.size w w' ∧ e = .returned (gotV s.size (oneL (s[a]'ha) (s.data.toList.drop (a + 1)))) := by
  have HG := Lib.hid (IsGot.new (v0 := .int .i64 0) (v1 := .string ⟨#[]⟩) (v2 := .int .i64 0) (v3 := .bool false) (v4 := .int .i64 0) (v5 := .int .i64 0) (v6 := .int .i64 0) w)
  have HB := Lib.hid ((Below.refl w.heap.size w).alloc (Nat.le_refl _) (.cells #[.int .i64 0, .string ⟨#[]⟩, .int .i64 0, .bool false, .int .i64 0, .int .i64 0, .int .i64 0] 115))
  have hnd : decide ((a : Int) + 1 < (s.size : Int)) = true := decide_eq_true (by omega)
  have hsm : sml ((s[a]'ha).toNat : Int) = false := by rw [hc]; rfl
  have hbg : bgI ((s[a]'ha).toNat : Int) = false := by rw [hc]; rfl
  have hfg : figI ((s[a]'ha).toNat : Int) = false := by rw [hc]; rfl
  have hcv : ((s[a]'ha).toNat : Int) = 41 := by rw [hc]; rfl
  have hsm' : sml 41 = false := rfl
  have hbg' : bgI 41 = false := rfl
  have hfg' : figI 41 = false := rfl
  have HM := Lib.hid (show markTwo (41 :: s.data.toList.drop (a + 1)) = false from by simp [markTwo, List.isPrefixOf])
  go_enter Tryz.func67, Tryz.ntmps67
  have k0 := HG.out.c0; have k1 := HG.out.c1; have k2 := HG.out.c2; have k3 := HG.out.c3; have k4 := HG.out.c4; have k5 := HG.out.c5; have k6 := HG.out.c6
  have l0 := HG.out.fr 0; have l1 := HG.out.fr 1; have l2 := HG.out.fr 2; have l3 := HG.out.fr 3; have l4 := HG.out.fr 4; have l5 := HG.out.fr 5; have l6 := HG.out.fr 6
  go_wp2_with (first
    | (go_at_call 97; with_reducible refine (rsmall5_calls _ _).mono ?_; rintro e w' ⟨rfl, rfl⟩; first | rw [hsm] | rw [hsm'])
    | (go_at_call 98; with_reducible refine (rbig5_calls _ _).mono ?_; rintro e w' ⟨rfl, rfl⟩; first | rw [hbg] | rw [hbg'])
    | (go_at_call 100; with_reducible refine (rfig5_calls _ _).mono ?_; rintro e w' ⟨rfl, rfl⟩; first | rw [hfg] | rw [hfg'] | rw [hfn] | rw [show figI 0 = false from rfl]))
  refine bodyPost_ret (v := .agg #[.int .i64 4, .string (s.extract a (a + 1)), .int .i64 0, .bool false, .int .i64 0, .int .i64 ((a : Int) + 1), .int .i64 0]) (by simp [results, Tryz.results67, go_sem]) rfl ⟨(Below.refl w.heap.size w).alloc (Nat.le_refl _) _, ?_⟩
  rw [hc, oneL_markc (by decide) (by decide) (by decide) (by decide) (by decide), markL_one 41 _ (HM.out) (by decide), ext_one ha, hc]
  show _ = Ending.returned (.agg #[.int .i64 4, .string (bs [41]), .int .i64 0, .bool false, .int .i64 0, .int .i64 ((s.size - (s.data.toList.drop (a + 1)).length : Nat) : Int), .int .i64 0])
  rw [drop_len (show a + 1 ≤ s.size by omega)]
  rfl
set_option maxRecDepth 100000 in
set_option maxHeartbeats 16000000 in
theorem rone_58one_y (s : ByteArray) (a : Nat) (w : World) (ha : a < s.size) (hs : s.size ≤ 65536) (hn : a + 1 < s.size) (hc : (s[a]'ha) = 58) (hnx : (((s[a + 1]'hn).toNat : Int) == 45) = false) :
    Calls Tryz.prog 67 #[.string s, .int .i64 (a : Int)] w fun e w' => Below w.heap.size w w' ∧ e = .returned (gotV s.size (oneL (s[a]'ha) (s.data.toList.drop (a + 1)))) := by
  have HG := Lib.hid (IsGot.new (v0 := .int .i64 0) (v1 := .string ⟨#[]⟩) (v2 := .int .i64 0) (v3 := .bool false) (v4 := .int .i64 0) (v5 := .int .i64 0) (v6 := .int .i64 0) w)
  have HB := Lib.hid ((Below.refl w.heap.size w).alloc (Nat.le_refl _) (.cells #[.int .i64 0, .string ⟨#[]⟩, .int .i64 0, .bool false, .int .i64 0, .int .i64 0, .int .i64 0] 115))
  have hnd : decide ((a : Int) + 1 < (s.size : Int)) = true := decide_eq_true (by omega)
  have hsm : sml ((s[a]'ha).toNat : Int) = false := by rw [hc]; rfl
  have hbg : bgI ((s[a]'ha).toNat : Int) = false := by rw [hc]; rfl
  have hfg : figI ((s[a]'ha).toNat : Int) = false := by rw [hc]; rfl
  have hcv : ((s[a]'ha).toNat : Int) = 58 := by rw [hc]; rfl
  have hsm' : sml 58 = false := rfl
  have hbg' : bgI 58 = false := rfl
  have hfg' : figI 58 = false := rfl
  have HM := Lib.hid (show markTwo (58 :: s.data.toList.drop (a + 1)) = false from by rw [drop_at hn]; have h := byteNot (d := 45) hnx (by decide); simp [markTwo, List.isPrefixOf] ; simpa using fun e => by rw [← e] at h; simp at h)
  go_enter Tryz.func67, Tryz.ntmps67
  have k0 := HG.out.c0; have k1 := HG.out.c1; have k2 := HG.out.c2; have k3 := HG.out.c3; have k4 := HG.out.c4; have k5 := HG.out.c5; have k6 := HG.out.c6
  have l0 := HG.out.fr 0; have l1 := HG.out.fr 1; have l2 := HG.out.fr 2; have l3 := HG.out.fr 3; have l4 := HG.out.fr 4; have l5 := HG.out.fr 5; have l6 := HG.out.fr 6
  go_wp2_with (first
    | (go_at_call 97; with_reducible refine (rsmall5_calls _ _).mono ?_; rintro e w' ⟨rfl, rfl⟩; first | rw [hsm] | rw [hsm'])
    | (go_at_call 98; with_reducible refine (rbig5_calls _ _).mono ?_; rintro e w' ⟨rfl, rfl⟩; first | rw [hbg] | rw [hbg'])
    | (go_at_call 100; with_reducible refine (rfig5_calls _ _).mono ?_; rintro e w' ⟨rfl, rfl⟩; first | rw [hfg] | rw [hfg'] | rw [hfn] | rw [show figI 0 = false from rfl]))
  refine bodyPost_ret (v := .agg #[.int .i64 0, .string ⟨#[]⟩, .int .i64 0, .bool false, .int .i64 0, .int .i64 0, .int .i64 2]) (by simp [results, Tryz.results67, go_sem]) rfl ⟨(Below.refl w.heap.size w).alloc (Nat.le_refl _) _, ?_⟩
  rw [hc, oneL_markc (by decide) (by decide) (by decide) (by decide) (by decide), markL_none 58 _ HM.out (by decide)]
  rfl
set_option maxRecDepth 100000 in
set_option maxHeartbeats 16000000 in
theorem rone_33one_y (s : ByteArray) (a : Nat) (w : World) (ha : a < s.size) (hs : s.size ≤ 65536) (hn : a + 1 < s.size) (hc : (s[a]'ha) = 33) (hnx : (((s[a + 1]'hn).toNat : Int) == 61) = false) :
    Calls Tryz.prog 67 #[.string s, .int .i64 (a : Int)] w fun e w' => Below w.heap.size w w' ∧ e = .returned (gotV s.size (oneL (s[a]'ha) (s.data.toList.drop (a + 1)))) := by
  have HG := Lib.hid (IsGot.new (v0 := .int .i64 0) (v1 := .string ⟨#[]⟩) (v2 := .int .i64 0) (v3 := .bool false) (v4 := .int .i64 0) (v5 := .int .i64 0) (v6 := .int .i64 0) w)
  have HB := Lib.hid ((Below.refl w.heap.size w).alloc (Nat.le_refl _) (.cells #[.int .i64 0, .string ⟨#[]⟩, .int .i64 0, .bool false, .int .i64 0, .int .i64 0, .int .i64 0] 115))
  have hnd : decide ((a : Int) + 1 < (s.size : Int)) = true := decide_eq_true (by omega)
  have hsm : sml ((s[a]'ha).toNat : Int) = false := by rw [hc]; rfl
  have hbg : bgI ((s[a]'ha).toNat : Int) = false := by rw [hc]; rfl
  have hfg : figI ((s[a]'ha).toNat : Int) = false := by rw [hc]; rfl
  have hcv : ((s[a]'ha).toNat : Int) = 33 := by rw [hc]; rfl
  have hsm' : sml 33 = false := rfl
  have hbg' : bgI 33 = false := rfl
  have hfg' : figI 33 = false := rfl
  have HM := Lib.hid (show markTwo (33 :: s.data.toList.drop (a + 1)) = false from by rw [drop_at hn]; have h := byteNot (d := 61) hnx (by decide); simp [markTwo, List.isPrefixOf] ; simpa using fun e => by rw [← e] at h; simp at h)
  go_enter Tryz.func67, Tryz.ntmps67
  have k0 := HG.out.c0; have k1 := HG.out.c1; have k2 := HG.out.c2; have k3 := HG.out.c3; have k4 := HG.out.c4; have k5 := HG.out.c5; have k6 := HG.out.c6
  have l0 := HG.out.fr 0; have l1 := HG.out.fr 1; have l2 := HG.out.fr 2; have l3 := HG.out.fr 3; have l4 := HG.out.fr 4; have l5 := HG.out.fr 5; have l6 := HG.out.fr 6
  go_wp2_with (first
    | (go_at_call 97; with_reducible refine (rsmall5_calls _ _).mono ?_; rintro e w' ⟨rfl, rfl⟩; first | rw [hsm] | rw [hsm'])
    | (go_at_call 98; with_reducible refine (rbig5_calls _ _).mono ?_; rintro e w' ⟨rfl, rfl⟩; first | rw [hbg] | rw [hbg'])
    | (go_at_call 100; with_reducible refine (rfig5_calls _ _).mono ?_; rintro e w' ⟨rfl, rfl⟩; first | rw [hfg] | rw [hfg'] | rw [hfn] | rw [show figI 0 = false from rfl]))
  refine bodyPost_ret (v := .agg #[.int .i64 0, .string ⟨#[]⟩, .int .i64 0, .bool false, .int .i64 0, .int .i64 0, .int .i64 2]) (by simp [results, Tryz.results67, go_sem]) rfl ⟨(Below.refl w.heap.size w).alloc (Nat.le_refl _) _, ?_⟩
  rw [hc, oneL_markc (by decide) (by decide) (by decide) (by decide) (by decide), markL_none 33 _ HM.out (by decide)]
  rfl
set_option maxRecDepth 100000 in
set_option maxHeartbeats 16000000 in
theorem rone_41_n (s : ByteArray) (a : Nat) (w : World) (ha : a < s.size) (hs : s.size ≤ 65536) (hn : ¬ a + 1 < s.size) (hc : (s[a]'ha) = 41) :
    Calls Tryz.prog 67 #[.string s, .int .i64 (a : Int)] w fun e w' => Below w.heap.size w w' ∧ e = .returned (gotV s.size (oneL (s[a]'ha) (s.data.toList.drop (a + 1)))) := by
  have HG := Lib.hid (IsGot.new (v0 := .int .i64 0) (v1 := .string ⟨#[]⟩) (v2 := .int .i64 0) (v3 := .bool false) (v4 := .int .i64 0) (v5 := .int .i64 0) (v6 := .int .i64 0) w)
  have HB := Lib.hid ((Below.refl w.heap.size w).alloc (Nat.le_refl _) (.cells #[.int .i64 0, .string ⟨#[]⟩, .int .i64 0, .bool false, .int .i64 0, .int .i64 0, .int .i64 0] 115))
  have hnd : decide ((a : Int) + 1 < (s.size : Int)) = false := decide_eq_false (by omega)
  have hsm : sml ((s[a]'ha).toNat : Int) = false := by rw [hc]; rfl
  have hbg : bgI ((s[a]'ha).toNat : Int) = false := by rw [hc]; rfl
  have hfg : figI ((s[a]'ha).toNat : Int) = false := by rw [hc]; rfl
  have hcv : ((s[a]'ha).toNat : Int) = 41 := by rw [hc]; rfl
  have hsm' : sml 41 = false := rfl
  have hbg' : bgI 41 = false := rfl
  have hfg' : figI 41 = false := rfl
  have HM := Lib.hid (show markTwo (41 :: s.data.toList.drop (a + 1)) = false from by simp [markTwo, List.isPrefixOf])
  go_enter Tryz.func67, Tryz.ntmps67
  have k0 := HG.out.c0; have k1 := HG.out.c1; have k2 := HG.out.c2; have k3 := HG.out.c3; have k4 := HG.out.c4; have k5 := HG.out.c5; have k6 := HG.out.c6
  have l0 := HG.out.fr 0; have l1 := HG.out.fr 1; have l2 := HG.out.fr 2; have l3 := HG.out.fr 3; have l4 := HG.out.fr 4; have l5 := HG.out.fr 5; have l6 := HG.out.fr 6
  go_wp2_with (first
    | (go_at_call 97; with_reducible refine (rsmall5_calls _ _).mono ?_; rintro e w' ⟨rfl, rfl⟩; first | rw [hsm] | rw [hsm'])
    | (go_at_call 98; with_reducible refine (rbig5_calls _ _).mono ?_; rintro e w' ⟨rfl, rfl⟩; first | rw [hbg] | rw [hbg'])
    | (go_at_call 100; with_reducible refine (rfig5_calls _ _).mono ?_; rintro e w' ⟨rfl, rfl⟩; first | rw [hfg] | rw [hfg'] | rw [hfn] | rw [show figI 0 = false from rfl]))
  refine bodyPost_ret (v := .agg #[.int .i64 4, .string (s.extract a (a + 1)), .int .i64 0, .bool false, .int .i64 0, .int .i64 ((a : Int) + 1), .int .i64 0]) (by simp [results, Tryz.results67, go_sem]) rfl ⟨(Below.refl w.heap.size w).alloc (Nat.le_refl _) _, ?_⟩
  rw [hc, oneL_markc (by decide) (by decide) (by decide) (by decide) (by decide), markL_one 41 _ (HM.out) (by decide), ext_one ha, hc]
  show _ = Ending.returned (.agg #[.int .i64 4, .string (bs [41]), .int .i64 0, .bool false, .int .i64 0, .int .i64 ((s.size - (s.data.toList.drop (a + 1)).length : Nat) : Int), .int .i64 0])
  rw [drop_len (show a + 1 ≤ s.size by omega)]
  rfl
set_option maxRecDepth 100000 in
set_option maxHeartbeats 16000000 in
theorem rone_60one_n (s : ByteArray) (a : Nat) (w : World) (ha : a < s.size) (hs : s.size ≤ 65536) (hn : ¬ a + 1 < s.size) (hc : (s[a]'ha) = 60) :
    Calls Tryz.prog 67 #[.string s, .int .i64 (a : Int)] w fun e w' => Below w.heap.size w w' ∧ e = .returned (gotV s.size (oneL (s[a]'ha) (s.data.toList.drop (a + 1)))) := by
  have HG := Lib.hid (IsGot.new (v0 := .int .i64 0) (v1 := .string ⟨#[]⟩) (v2 := .int .i64 0) (v3 := .bool false) (v4 := .int .i64 0) (v5 := .int .i64 0) (v6 := .int .i64 0) w)
  have HB := Lib.hid ((Below.refl w.heap.size w).alloc (Nat.le_refl _) (.cells #[.int .i64 0, .string ⟨#[]⟩, .int .i64 0, .bool false, .int .i64 0, .int .i64 0, .int .i64 0] 115))
  have hnd : decide ((a : Int) + 1 < (s.size : Int)) = false := decide_eq_false (by omega)
  have hsm : sml ((s[a]'ha).toNat : Int) = false := by rw [hc]; rfl
  have hbg : bgI ((s[a]'ha).toNat : Int) = false := by rw [hc]; rfl
  have hfg : figI ((s[a]'ha).toNat : Int) = false := by rw [hc]; rfl
  have hcv : ((s[a]'ha).toNat : Int) = 60 := by rw [hc]; rfl
  have hsm' : sml 60 = false := rfl
  have hbg' : bgI 60 = false := rfl
  have hfg' : figI 60 = false := rfl
  have HM := Lib.hid (show markTwo (60 :: s.data.toList.drop (a + 1)) = false from by rw [drop_end (by omega)]; simp [markTwo, List.isPrefixOf])
  go_enter Tryz.func67, Tryz.ntmps67
  have k0 := HG.out.c0; have k1 := HG.out.c1; have k2 := HG.out.c2; have k3 := HG.out.c3; have k4 := HG.out.c4; have k5 := HG.out.c5; have k6 := HG.out.c6
  have l0 := HG.out.fr 0; have l1 := HG.out.fr 1; have l2 := HG.out.fr 2; have l3 := HG.out.fr 3; have l4 := HG.out.fr 4; have l5 := HG.out.fr 5; have l6 := HG.out.fr 6
  go_wp2_with (first
    | (go_at_call 97; with_reducible refine (rsmall5_calls _ _).mono ?_; rintro e w' ⟨rfl, rfl⟩; first | rw [hsm] | rw [hsm'])
    | (go_at_call 98; with_reducible refine (rbig5_calls _ _).mono ?_; rintro e w' ⟨rfl, rfl⟩; first | rw [hbg] | rw [hbg'])
    | (go_at_call 100; with_reducible refine (rfig5_calls _ _).mono ?_; rintro e w' ⟨rfl, rfl⟩; first | rw [hfg] | rw [hfg'] | rw [hfn] | rw [show figI 0 = false from rfl]))
  refine bodyPost_ret (v := .agg #[.int .i64 4, .string (s.extract a (a + 1)), .int .i64 0, .bool false, .int .i64 0, .int .i64 ((a : Int) + 1), .int .i64 0]) (by simp [results, Tryz.results67, go_sem]) rfl ⟨(Below.refl w.heap.size w).alloc (Nat.le_refl _) _, ?_⟩
  rw [hc, oneL_markc (by decide) (by decide) (by decide) (by decide) (by decide), markL_one 60 _ (HM.out) (by decide), ext_one ha, hc]
  show _ = Ending.returned (.agg #[.int .i64 4, .string (bs [60]), .int .i64 0, .bool false, .int .i64 0, .int .i64 ((s.size - (s.data.toList.drop (a + 1)).length : Nat) : Int), .int .i64 0])
  rw [drop_len (show a + 1 ≤ s.size by omega)]
  rfl
end Go.Proofs.YtminbdcabacfbaaGreatDoor.V

namespace Go.Proofs.YtminbdcabacfbaaGreatDoor.V
set_option linter.unusedVariables false
set_option linter.unusedSimpArgs false
open Go.RowKit

theorem rone_calls (s : ByteArray) (a : Nat) (w : World) (ha : a < s.size) (hs : s.size ≤ 65536) :
    Calls Tryz.prog 67 #[.string s, .int .i64 (a : Int)] w fun e w' => Below w.heap.size w w' ∧ e = .returned (gotV s.size (oneL (s[a]'ha) (s.data.toList.drop (a + 1)))) := by
  by_cases hn : a + 1 < s.size
  · cases hsm : sml ((s[a]'ha).toNat : Int) with
    | true => exact rone_small_y s a w ha hs hn hsm
    | false =>
      cases hbg : bgI ((s[a]'ha).toNat : Int) with
      | true => exact rone_big_y s a w ha hs hn hsm hbg
      | false =>
        cases hfg : figI ((s[a]'ha).toNat : Int) with
        | true => exact rone_fig_y s a w ha hs hn hsm hbg hfg
        | false =>
          cases e45 : (((s[a]'ha).toNat : Int) == 45) with
          | true =>
            have hc : (s[a]'ha) = 45 := byteN (d := 45) e45 (by decide)
            cases hfn : figI ((s[a + 1]'hn).toNat : Int) with
            | true => exact rone_low_y s a w ha hs hn hc hfn
            | false => exact rone_lowno_y s a w ha hs hn hc hfn
          | false =>
            cases e39 : (((s[a]'ha).toNat : Int) == 39) with
            | true =>
              have hc : (s[a]'ha) = 39 := byteN (d := 39) e39 (by decide)
              exact rone_quot_y s a w ha hs hn hc
            | false =>
              cases e58 : (((s[a]'ha).toNat : Int) == 58) with
              | true =>
                have hc : (s[a]'ha) = 58 := byteN (d := 58) e58 (by decide)
                cases hnx : (((s[a + 1]'hn).toNat : Int) == 45) with
                | true => exact rone_58two_y s a w ha hs hn hc (byteN (d := 45) hnx (by decide))
                | false => exact rone_58one_y s a w ha hs hn hc hnx
              | false =>
                cases e60 : (((s[a]'ha).toNat : Int) == 60) with
                | true =>
                  have hc : (s[a]'ha) = 60 := byteN (d := 60) e60 (by decide)
                  cases hnx : (((s[a + 1]'hn).toNat : Int) == 61) with
                  | true => exact rone_60two_y s a w ha hs hn hc (byteN (d := 61) hnx (by decide))
                  | false => exact rone_60one_y s a w ha hs hn hc hnx
                | false =>
                  cases e62 : (((s[a]'ha).toNat : Int) == 62) with
                  | true =>
                    have hc : (s[a]'ha) = 62 := byteN (d := 62) e62 (by decide)
                    cases hnx : (((s[a + 1]'hn).toNat : Int) == 61) with
                    | true => exact rone_62two_y s a w ha hs hn hc (byteN (d := 61) hnx (by decide))
                    | false => exact rone_62one_y s a w ha hs hn hc hnx
                  | false =>
                    cases e33 : (((s[a]'ha).toNat : Int) == 33) with
                    | true =>
                      have hc : (s[a]'ha) = 33 := byteN (d := 33) e33 (by decide)
                      cases hnx : (((s[a + 1]'hn).toNat : Int) == 61) with
                      | true => exact rone_33two_y s a w ha hs hn hc (byteN (d := 61) hnx (by decide))
                      | false => exact rone_33one_y s a w ha hs hn hc hnx
                    | false =>
                      cases e40 : (((s[a]'ha).toNat : Int) == 40) with
                      | true =>
                        have hc : (s[a]'ha) = 40 := byteN (d := 40) e40 (by decide)
                        exact rone_40_y s a w ha hs hn hc
                      | false =>
                        cases e41 : (((s[a]'ha).toNat : Int) == 41) with
                        | true =>
                          have hc : (s[a]'ha) = 41 := byteN (d := 41) e41 (by decide)
                          exact rone_41_y s a w ha hs hn hc
                        | false =>
                          cases e44 : (((s[a]'ha).toNat : Int) == 44) with
                          | true =>
                            have hc : (s[a]'ha) = 44 := byteN (d := 44) e44 (by decide)
                            exact rone_44_y s a w ha hs hn hc
                          | false =>
                            cases e46 : (((s[a]'ha).toNat : Int) == 46) with
                            | true =>
                              have hc : (s[a]'ha) = 46 := byteN (d := 46) e46 (by decide)
                              exact rone_46_y s a w ha hs hn hc
                            | false =>
                              cases e47 : (((s[a]'ha).toNat : Int) == 47) with
                              | true =>
                                have hc : (s[a]'ha) = 47 := byteN (d := 47) e47 (by decide)
                                exact rone_47_y s a w ha hs hn hc
                              | false =>
                                cases e61 : (((s[a]'ha).toNat : Int) == 61) with
                                | true =>
                                  have hc : (s[a]'ha) = 61 := byteN (d := 61) e61 (by decide)
                                  exact rone_61_y s a w ha hs hn hc
                                | false =>
                                  exact rone_else_y s a w ha hs hn hsm hbg hfg e45 e39 e58 e60 e62 e33 e40 e41 e44 e46 e47 e61
  · cases hsm : sml ((s[a]'ha).toNat : Int) with
    | true => exact rone_small_n s a w ha hs hn hsm
    | false =>
      cases hbg : bgI ((s[a]'ha).toNat : Int) with
      | true => exact rone_big_n s a w ha hs hn hsm hbg
      | false =>
        cases hfg : figI ((s[a]'ha).toNat : Int) with
        | true => exact rone_fig_n s a w ha hs hn hsm hbg hfg
        | false =>
          cases e45 : (((s[a]'ha).toNat : Int) == 45) with
          | true =>
            have hc : (s[a]'ha) = 45 := byteN (d := 45) e45 (by decide)
            exact rone_lowno_n s a w ha hs hn hc
          | false =>
            cases e39 : (((s[a]'ha).toNat : Int) == 39) with
            | true =>
              have hc : (s[a]'ha) = 39 := byteN (d := 39) e39 (by decide)
              exact rone_quot_n s a w ha hs hn hc
            | false =>
              cases e58 : (((s[a]'ha).toNat : Int) == 58) with
              | true =>
                have hc : (s[a]'ha) = 58 := byteN (d := 58) e58 (by decide)
                exact rone_58one_n s a w ha hs hn hc
              | false =>
                cases e60 : (((s[a]'ha).toNat : Int) == 60) with
                | true =>
                  have hc : (s[a]'ha) = 60 := byteN (d := 60) e60 (by decide)
                  exact rone_60one_n s a w ha hs hn hc
                | false =>
                  cases e62 : (((s[a]'ha).toNat : Int) == 62) with
                  | true =>
                    have hc : (s[a]'ha) = 62 := byteN (d := 62) e62 (by decide)
                    exact rone_62one_n s a w ha hs hn hc
                  | false =>
                    cases e33 : (((s[a]'ha).toNat : Int) == 33) with
                    | true =>
                      have hc : (s[a]'ha) = 33 := byteN (d := 33) e33 (by decide)
                      exact rone_33one_n s a w ha hs hn hc
                    | false =>
                      cases e40 : (((s[a]'ha).toNat : Int) == 40) with
                      | true =>
                        have hc : (s[a]'ha) = 40 := byteN (d := 40) e40 (by decide)
                        exact rone_40_n s a w ha hs hn hc
                      | false =>
                        cases e41 : (((s[a]'ha).toNat : Int) == 41) with
                        | true =>
                          have hc : (s[a]'ha) = 41 := byteN (d := 41) e41 (by decide)
                          exact rone_41_n s a w ha hs hn hc
                        | false =>
                          cases e44 : (((s[a]'ha).toNat : Int) == 44) with
                          | true =>
                            have hc : (s[a]'ha) = 44 := byteN (d := 44) e44 (by decide)
                            exact rone_44_n s a w ha hs hn hc
                          | false =>
                            cases e46 : (((s[a]'ha).toNat : Int) == 46) with
                            | true =>
                              have hc : (s[a]'ha) = 46 := byteN (d := 46) e46 (by decide)
                              exact rone_46_n s a w ha hs hn hc
                            | false =>
                              cases e47 : (((s[a]'ha).toNat : Int) == 47) with
                              | true =>
                                have hc : (s[a]'ha) = 47 := byteN (d := 47) e47 (by decide)
                                exact rone_47_n s a w ha hs hn hc
                              | false =>
                                cases e61 : (((s[a]'ha).toNat : Int) == 61) with
                                | true =>
                                  have hc : (s[a]'ha) = 61 := byteN (d := 61) e61 (by decide)
                                  exact rone_61_n s a w ha hs hn hc
                                | false =>
                                  exact rone_else_n s a w ha hs hn hsm hbg hfg e45 e39 e58 e60 e62 e33 e40 e41 e44 e46 e47 e61
end Go.Proofs.YtminbdcabacfbaaGreatDoor.V

namespace Go.Proofs.YtminbdcabacfbaaGreatDoor.V
set_option linter.unusedVariables false
set_option linter.unusedSimpArgs false
open Go.RowKit

/-- What is left behind a token is what is left of the text. -/
theorem suffix_drop {l r : List UInt8} (h : r <:+ l) : l.drop (l.length - r.length) = r := by
  obtain ⟨t, rfl⟩ := h
  rw [List.length_append, show t.length + r.length - r.length = t.length by omega]
  exact List.drop_left
theorem quotL_suf : ∀ (n : Nat) (l : List UInt8), l.length ≤ n → ∀ b r, quotL l = some (b, r) → r <:+ l := by
  intro n
  induction n with
  | zero =>
    intro l hl b r h
    match l, hl with
    | [], _ => simp [quotL] at h
  | succ n ih =>
    intro l hl b r h
    match l with
    | [] => simp [quotL] at h
    | [c] =>
      unfold quotL at h
      split at h
      · simp at h; rw [h.2]; exact List.nil_suffix
      · simp at h
    | c :: d :: u =>
      unfold quotL at h
      split at h
      · simp at h; rw [← h.2]; exact List.suffix_cons _ _
      · split at h
        · simp at h
        · split at h
          · split at h
            · simp only [Option.map_eq_some_iff] at h
              obtain ⟨p, hp, he⟩ := h
              have := ih u (by simp at hl; omega) p.1 p.2 hp
              simp at he
              rw [← he.2]
              exact this.trans ((List.suffix_cons _ _).trans (List.suffix_cons _ _))
            · simp at h
          · simp only [Option.map_eq_some_iff] at h
            obtain ⟨p, hp, he⟩ := h
            have := ih (d :: u) (by simp at hl ⊢; omega) p.1 p.2 hp
            simp at he
            rw [← he.2]
            exact this.trans (List.suffix_cons _ _)
theorem oneL_suf (c : UInt8) (t : List UInt8) (k : Tok) (r : List UInt8) (h : oneL c t = .tok k r) : r <:+ c :: t := by
  have hn : ∀ kk, (namedL kk (c :: t) = .tok k r) → r <:+ c :: t := by
    intro kk h
    unfold namedL at h
    split at h
    · simp at h
    · simp only [Got.tok.injEq] at h
      rw [← h.2]
      exact List.dropWhile_suffix _
  unfold oneL at h
  split at h
  · exact hn 1 h
  · split at h
    · exact hn 2 h
    · split at h
      · unfold numL at h
        split at h
        · simp only [Got.tok.injEq] at h
          rw [← h.2]
          exact (List.dropWhile_suffix _).trans (List.suffix_cons _ _)
        · simp at h
      · split at h
        · unfold qres at h
          split at h
          · rename_i p hp
            simp only [Got.tok.injEq] at h
            rw [← h.2]
            exact (quotL_suf _ t (Nat.le_refl _) p.1 p.2 hp).trans (List.suffix_cons _ _)
          · simp at h
        · unfold markL at h
          split at h
          · simp only [Got.tok.injEq] at h
            rw [← h.2]
            exact List.drop_suffix _ _
          · split at h
            · simp only [Got.tok.injEq] at h
              rw [← h.2]
              exact List.drop_suffix _ _
            · simp at h
theorem rone_rest {s : ByteArray} {k b2 : Nat} {u : Tok} {r : List UInt8} {hkl : k < s.size} (ho : oneL (s[k]'hkl) (s.data.toList.drop (k + 1)) = .tok u r) (hb2 : s.size - r.length = b2) (_ : k < s.size) : s.data.toList.drop b2 = r := by
  have h1 := oneL_suf _ _ _ _ ho
  rw [← drop_at hkl] at h1
  have h2 := suffix_drop (h1.trans (List.drop_suffix _ _))
  have h3 : s.data.toList.length = s.size := by simp
  rw [h3, hb2] at h2
  exact h2

/-- What the document's Scan keeps, round by round. -/
structure RS (s : ByteArray) (k : Nat) (w W : World) (v : Value) (done : List TP') : Prop where
  hk : k ≤ s.size
  hs : skipR false (s.data.toList.drop k) = s.data.toList.drop k
  ho : W.ownsRow w.heap.size 71 5 v done.length (tokCells done)
  hz : done = [] → v = .slice none 0 0
  hn : done.length ≤ k
  hb : Below w.heap.size w W
  hq : scanT s.size s.data.toList = (scanT s.size (s.data.toList.drop k)).app done

set_option maxRecDepth 100000 in
set_option maxHeartbeats 8000000 in
theorem rscan_calls (s : ByteArray) (w : World) :
    Calls Tryz.prog 37 #[.string s] w (ScanIs s w) := by
  have hls : s.data.toList.length = s.size := by simp
  by_cases hbig : 65536 < s.size
  · have hd : decide (65536 < (s.size : Int)) = true := decide_eq_true (by omega)
    have HQ := Lib.hid (show scanL s.data.toList = .bad 0 4 from if_pos (by omega))
    clear hls hbig
    go_enter Tryz.func37, Tryz.ntmps37
    go_wp2_with fail
    refine bodyPost_ret (v := .tuple #[.slice none 0 0, .int .i64 0, .int .i64 4]) (by simp [results, Tryz.results37, go_sem]) rfl ⟨Below.refl _ _, ?_⟩
    rw [HQ.out]
    rfl
  · have hd : decide (65536 < (s.size : Int)) = false := decide_eq_false (by omega)
    have hs2 : s.size ≤ 65536 := by omega
    have HSL := Lib.hid (show scanL s.data.toList = scanT s.size s.data.toList by
      unfold scanL scanT
      rw [if_neg (by omega), hls])
    have HK0 := Lib.hid (fun (W : World) => (show Calls Tryz.prog 66 #[.string s, .int .i64 0] W (fun e w' => W = w' ∧ ∃ b : Nat, e = .returned (.int .i64 (b : Int)) ∧ 0 ≤ b ∧ b ≤ s.size ∧ s.data.toList.drop b = skipR false (s.data.toList.drop 0)) from rskip_calls s 0 W (Nat.zero_le _) hs2))
    clear hls hbig
    go_enter Tryz.func37, Tryz.ntmps37
    go_wp2_with (go_at_call 66; ((with_reducible refine (HK0.out _).mono ?_); rintro e w1 ⟨rfl, b, rfl, _, hb, hsk⟩; have HSK := Lib.hid hsk; have HB := Lib.hid hb; clear hsk hb))
    have hb := HB.out
    go_loopw [6, 5] (fun i v wr => ∃ k done, i = .int .i64 ((k : Nat) : Int) ∧ RS s k w wr v done) (fun i _ _ => s.size + 1 - (intOf i).toNat)
    case atStart =>
      refine ⟨b, [], rfl, ⟨HB.out, ?_, World.ownsRow_nil _ _ _ _, fun _ => rfl, Nat.zero_le _, Below.refl _ _, ?_⟩⟩
      · rw [HSK.out, skip_idem]
      · rw [HSK.out, List.drop_zero, scanT_skip, app_nil]
    case round =>
      obtain ⟨k, done, rfl, hW⟩ := hrel
      obtain ⟨A, c, rfl⟩ := o_slice hW.ho
      have HW := Lib.hid hW
      clear hW hb
      by_cases hkl : k < s.size
      · have hdk : decide ((k : Int) < (s.size : Int)) = true := decide_eq_true (by omega)
        have hstay := HW.out.hs
        rw [drop_at hkl] at hstay
        cases ho : oneL s[k] (s.data.toList.drop (k + 1)) with
        | bad m =>
          have hm : ((m : Int) != 0) = true := by
            have := oneL_bad ho
            simp
            omega
          have HF := Lib.hid (show scanL s.data.toList = .bad k m by
            rw [HSL.out, HW.out.hq, scanT_bad _ _ s[k] (s.data.toList.drop (k + 1)) m (by rw [drop_at hkl]; exact hstay) ho]
            simp [Scan.app]
            omega)
          have HC := Lib.hid (fun (W : World) => (show Calls Tryz.prog 67 #[.string s, .int .i64 (k : Int)] W (fun e w' => Below W.heap.size W w' ∧ e = .returned (.agg #[.int .i64 0, .string ⟨#[]⟩, .int .i64 0, .bool false, .int .i64 0, .int .i64 0, .int .i64 (m : Int)])) from by
            have h := rone_calls s k W hkl hs2
            rw [ho] at h
            exact h))
          clear hstay ho
          go_wp2_with (go_at_call 67; ((with_reducible refine (HC.out _).mono ?_); rintro e w2 ⟨hb2, rfl⟩; have HB2 := Lib.hid (HW.out.hb.trans (hb2.mono HW.out.hb.size)); clear hb2))
          go_quiet (fail)
          go_wp2_with fail
          refine bodyPost_ret (v := .tuple #[.slice none 0 0, .int .i64 (k : Int), .int .i64 (m : Int)]) (by simp [results, Tryz.results37, go_sem]) rfl ⟨(HB2.out.alloc HB2.out.size _).trans ⟨rfl, rfl, rfl, Nat.le_refl _, fun _ _ => rfl⟩, ?_⟩
          rw [HF.out]
        | tok u r =>
          have HF := Lib.hid (show scanT s.size s.data.toList = (scanT s.size r).app (done ++ [(u, k)]) by
            rw [HW.out.hq, scanT_tok _ _ s[k] (s.data.toList.drop (k + 1)) u r (by rw [drop_at hkl]; exact hstay) ho, app_cons]
            have e : s.size - (s[k] :: s.data.toList.drop (k + 1)).length = k := by simp; omega
            rw [e])
          have hlen : r.length < s.size - k := by
            have := oneL_lt _ _ _ _ ho
            simp at this
            omega
          obtain ⟨b2, hb2⟩ : ∃ b2, s.size - r.length = b2 := ⟨_, rfl⟩
          have HC := Lib.hid (fun (W : World) => (show Calls Tryz.prog 67 #[.string s, .int .i64 (k : Int)] W (fun e w' => Below W.heap.size W w' ∧ e = .returned (.agg #[.int .i64 (u.k : Int), .string ⟨u.s.toArray⟩, .int .i64 u.n, .bool u.q, .int .i64 0, .int .i64 (b2 : Int), .int .i64 0])) from by
            have h := rone_calls s k W hkl hs2
            rw [ho] at h
            rw [← hb2]
            exact h))
          have HBK := Lib.hid (show k < b2 by omega)
          have HB2 := Lib.hid (show b2 ≤ s.size by omega)
          have HR2 := Lib.hid (show s.data.toList.drop b2 = r from rone_rest ho hb2 hkl)
          clear hstay ho hlen hb2
          go_wp2_with (first
            | (go_at_call 67; ((with_reducible refine (HC.out _).mono ?_); rintro e w2 ⟨hb2, rfl⟩; have HO2 := Lib.hid (o_kb HW.out.ho hb2); have HLT := Lib.hid (show ∀ g, Value.ownBlock (.slice A done.length c) = some g → g < w2.heap.size from fun g hg => Nat.lt_of_lt_of_le (HW.out.ho.lt g hg).2 hb2.size); have HBW := Lib.hid (HW.out.hb.trans (hb2.mono HW.out.hb.size)); clear hb2))
            | (at_builtin; refine RowKit.Hid.out ?_))
          refine Lib.hid ?_
          have hb1 := (Below.refl w2.heap.size w2).alloc (Nat.le_refl _) (.cells #[.int .i64 (u.k : Int), .string ⟨u.s.toArray⟩, .int .i64 u.n, .bool u.q, .int .i64 0, .int .i64 (b2 : Int), .int .i64 0] 115)
          have hbA := hb1.alloc hb1.size (.cells #[.int .i64 (u.k : Int), .string ⟨u.s.toArray⟩, .int .i64 u.n, .bool u.q, .int .i64 (k : Int)] 71)
          have hgot : IsGot w2.heap.size (.int .i64 (u.k : Int)) (.string ⟨u.s.toArray⟩) (.int .i64 u.n) (.bool u.q) (.int .i64 0) (.int .i64 (b2 : Int)) (.int .i64 0) ((w2.alloc (.cells #[.int .i64 (u.k : Int), .string ⟨u.s.toArray⟩, .int .i64 u.n, .bool u.q, .int .i64 0, .int .i64 (b2 : Int), .int .i64 0] 115)).alloc (.cells #[.int .i64 (u.k : Int), .string ⟨u.s.toArray⟩, .int .i64 u.n, .bool u.q, .int .i64 (k : Int)] 71)) := (IsGot.new w2).grown (World.grownBy_alloc _ _ none) (by simp)
          refine o_app (W := (w2.alloc (.cells #[.int .i64 (u.k : Int), .string ⟨u.s.toArray⟩, .int .i64 u.n, .bool u.q, .int .i64 0, .int .i64 (b2 : Int), .int .i64 0] 115)).alloc (.cells #[.int .i64 (u.k : Int), .string ⟨u.s.toArray⟩, .int .i64 u.n, .bool u.q, .int .i64 (k : Int)] 71)) rfl (.tmp 31) (.tmp 33) 64 71 rfl (.agg #[.int .i64 0, .string ⟨#[]⟩, .int .i64 0, .bool false, .int .i64 0]) 5 48 Tryz.underlying64 tok_info rfl (by decide) (by decide) #[.int .i64 (u.k : Int), .string ⟨u.s.toArray⟩, .int .i64 u.n, .bool u.q, .int .i64 (k : Int)] rfl (by intro v hv; simp at hv; rcases hv with rfl | rfl | rfl | rfl | rfl <;> rfl) (.slice A done.length c) done.length (tokCells done) (by rfl) (o_kb HO2.out hbA) (by first | rfl | (show (Value.slice (some ⟨w2.heap.size + 1 + 1, 0, none⟩) 1 1) = _; simp)) (by have := HW.out.hn; omega) (Nat.le_trans HBW.out.size hbA.size) ?_
          intro A2 c2 W3 ho3 hg3
          have hown : ∀ j, Value.ownBlock (.slice A done.length c) = some j → w.heap.size ≤ j := fun j hj => o_from HW.out.ho j hj
          have HGT := Lib.hid (hgot.grown hg3 (fun e => Nat.lt_irrefl _ (HLT.out _ e.symm)))
          have HO3 := Lib.hid (show W3.ownsRow w.heap.size 71 5 (.slice A2 (done.length + 1) c2) (done.length + 1) (tokCells (done ++ [(u, k)])) by rw [tokCells_snoc]; exact ho3)
          have HB3 := Lib.hid ((HBW.out.trans (hbA.mono HBW.out.size)).grown hg3 (Nat.le_trans HBW.out.size hbA.size) hown)
          have g5 := HGT.out.c5
          clear ho3 hg3 hb1 hbA hgot hown
          go_wp2_with (go_at_call 66; ((with_reducible refine (rskip_calls s b2 _ HB2.out hs2).mono ?_); rintro e w4 ⟨rfl, b4, rfl, hb24, hb4, hsk⟩; have HSK := Lib.hid hsk; have HB4 := Lib.hid hb4; have HB24 := Lib.hid hb24; clear hsk hb4 hb24))
          go_roundw
          case rel =>
            refine ⟨b4, done ++ [(u, k)], rfl, ⟨HB4.out, by rw [HSK.out, skip_idem], ?_, fun e => by simp at e, ?_, HB3.out, ?_⟩⟩
            · rw [List.length_append, List.length_singleton]
              exact HO3.out
            · have h1 := HBK.out
              have h2 := HB24.out
              have h3 := HW.out.hn
              simp
              omega
            · rw [HF.out, HSK.out, scanT_skip, HR2.out]
          case measure =>
            have h1 := HBK.out
            have h2 := HB24.out
            have h3 := HB4.out
            simp [intOf]
            omega
      · have hdk : decide ((k : Int) < (s.size : Int)) = false := decide_eq_false (by omega)
        have HF := Lib.hid (show scanL s.data.toList = .ok done by
          rw [HSL.out, HW.out.hq, drop_end (by omega), scanT_nil _ _ rfl]
          simp [Scan.app])
        go_wp2_with fail
        refine bodyPost_ret (v := .tuple #[.slice A done.length c, .int .i64 0, .int .i64 0]) (by simp [results, Tryz.results37, go_sem]) rfl ⟨HW.out.hb, ?_⟩
        rw [HF.out]
        exact ⟨_, rfl, HW.out.ho, HW.out.hz, by have := HW.out.hn; have := HW.out.hk; omega⟩
end Go.Proofs.YtminbdcabacfbaaGreatDoor.V
