/- The document's one: a part of its cases. (printed by gen_rone.py) -/
import Derived.Test.YtdfjhhhbkgelaaaGreatDoorR5h
namespace Go.Proofs.YtdfjhhhbkgelaaaGreatDoor.V
set_option linter.unusedVariables false
set_option linter.unusedSimpArgs false
open Go.RowKit

set_option maxRecDepth 100000 in
set_option maxHeartbeats 16000000 in
theorem rone_small_n (s : ByteArray) (a : Nat) (w : World) (ha : a < s.size) (hs : s.size ≤ 65536) (hn : ¬ a + 1 < s.size) (hsm : sml ((s[a]'ha).toNat : Int) = true) :
    Calls Tryz.prog 19 #[.string s, .int .i64 (a : Int)] w fun e w' => Below w.heap.size w w' ∧ e = .returned (gotV s.size (oneL (s[a]'ha) (s.data.toList.drop (a + 1)))) := by
  have HG := Lib.hid (IsGot.new (v0 := .int .i64 0) (v1 := .string ⟨#[]⟩) (v2 := .int .i64 0) (v3 := .bool false) (v4 := .int .i64 0) (v5 := .int .i64 0) (v6 := .int .i64 0) w)
  have HB := Lib.hid ((Below.refl w.heap.size w).alloc (Nat.le_refl _) (.cells #[.int .i64 0, .string ⟨#[]⟩, .int .i64 0, .bool false, .int .i64 0, .int .i64 0, .int .i64 0] 45))
  have hnd : decide ((a : Int) + 1 < (s.size : Int)) = false := decide_eq_false (by omega)
  have hbg : bgI ((s[a]'ha).toNat : Int) = false := by simp only [sml, bgI] at *; simp at *; omega
  have HQ := Lib.hid (show oneL (s[a]'ha) (s.data.toList.drop (a + 1)) = if 32 < runB wrdI s a - a then .bad 4 else .tok ⟨1, (s.data.toList.drop a).takeWhile (ofB wrdI), 0, false⟩ (s.data.toList.drop (runB wrdI s a)) from by
    rw [oneL_small hsm, ← drop_at ha]
    unfold namedL
    rw [runB_drop, show runB wrdI s a - a = ((s.data.toList.drop a).takeWhile (ofB wrdI)).length by unfold runB; omega])
  obtain ⟨T, hT⟩ : ∃ T, runB wrdI s a = T := ⟨_, rfl⟩
  have hTl := runB_le (P := wrdI) (s := s) (a := a) (by omega)
  have HX := Lib.hid (bs_of (runB_take wrdI s a))
  rw [hT] at hTl HQ HX
  have HTL := Lib.hid hTl
  have HT := Lib.hid hT
  clear hT hTl
  have hw0g : ∃ w0, w.alloc (.cells #[.int .i64 0, .string ⟨#[]⟩, .int .i64 0, .bool false, .int .i64 0, .int .i64 0, .int .i64 0] 45) = w0 := ⟨_, rfl⟩
  go_enter Tryz.func19, Tryz.ntmps19
  have k0 := HG.out.c0; have k1 := HG.out.c1; have k2 := HG.out.c2; have k3 := HG.out.c3; have k4 := HG.out.c4; have k5 := HG.out.c5; have k6 := HG.out.c6
  have l0 := HG.out.fr 0; have l1 := HG.out.fr 1; have l2 := HG.out.fr 2; have l3 := HG.out.fr 3; have l4 := HG.out.fr 4; have l5 := HG.out.fr 5; have l6 := HG.out.fr 6
  go_wp2_with (first
    | (go_at_call 40; with_reducible refine (rsmall5_calls _ _).mono ?_; rintro e w' ⟨rfl, rfl⟩; first | rw [hsm] | rw [hsm'])
    | (go_at_call 41; with_reducible refine (rbig5_calls _ _).mono ?_; rintro e w' ⟨rfl, rfl⟩; first | rw [hbg] | rw [hbg'])
    | (go_at_call 43; with_reducible refine (rfig5_calls _ _).mono ?_; rintro e w' ⟨rfl, rfl⟩; first | rw [hfg] | rw [hfg'] | rw [hfn] | rw [show figI 0 = false from rfl]))
  obtain ⟨w0, hw0⟩ := hw0g
  rw [hw0] at HG HB k0 k1 k2 k3 k4 k5 k6 l0 l1 l2 l3 l4 l5 l6 ⊢
  go_loopw [7] (fun i wr => ∃ k : Nat, a ≤ k ∧ k ≤ s.size ∧ i = .int .i64 (k : Int) ∧ runB wrdI s k = T ∧ w0 = wr) (fun i _ => s.size + 1 - (intOf i).toNat)
  case atStart => exact ⟨a, Nat.le_refl _, Nat.le_of_lt ha, rfl, HT.out, rfl⟩
  case round =>
    obtain ⟨k, hak, hk, rfl, hr, rfl⟩ := hrel
    cases hm : moreB wrdI s k with
    | true =>
      obtain ⟨hkl, hr2⟩ := runB_more hm
      have hd : decide ((k : Int) < (s.size : Int)) = true := decide_eq_true (by omega)
      have hwd : wrdI ((s[k]'hkl).toNat : Int) = true := ofB_at hm hkl
      have HR := Lib.hid (hr2.trans hr)
      clear hr hr2 hm
      go_wp2_with (go_at_call 42; with_reducible refine (rword5_calls _ _).mono ?_; rintro e w' ⟨rfl, rfl⟩; rw [hwd])
      go_roundw
      case rel => exact ⟨k + 1, by omega, hkl, by simp, HR.out, trivial⟩
      case measure => simp [intOf]; omega
    | false =>
      have hkT : k = T := by rw [← hr, runB_stop hm]
      subst hkT
      by_cases hkl : k < s.size
      · have hd : decide ((k : Int) < (s.size : Int)) = true := decide_eq_true (by omega)
        have hwd : wrdI ((s[k]'hkl).toNat : Int) = false := ofB_no hm hkl
        clear hr hm
        by_cases h32 : 32 < k - a
        · exfalso
          omega
        · have hd32 : decide ((32 : Int) < (k : Int) - (a : Int)) = false := decide_eq_false (by omega)
          have hka : a ≤ k := HTL.out.1
          go_wp2_with (first
            | (go_at_call 40; with_reducible refine (rsmall5_calls _ _).mono ?_; rintro e w' ⟨rfl, rfl⟩; first | rw [hsm] | rw [hsm'])
            | (go_at_call 41; with_reducible refine (rbig5_calls _ _).mono ?_; rintro e w' ⟨rfl, rfl⟩; first | rw [hbg] | rw [hbg'])
            | (go_at_call 43; with_reducible refine (rfig5_calls _ _).mono ?_; rintro e w' ⟨rfl, rfl⟩; first | rw [hfg] | rw [hfg'] | rw [hfn] | rw [show figI 0 = false from rfl])
            | (go_at_call 42; with_reducible refine (rword5_calls _ _).mono ?_; rintro e w' ⟨rfl, rfl⟩; rw [hwd]))
          have hset := HG.out.set (.int .i64 1) (.string (s.extract a k)) (.int .i64 0) (.bool false) (.int .i64 0) (.int .i64 ((k : Int))) (.int .i64 0)
          have r0 := hset.c0
          have r1 := hset.c1
          have r2 := hset.c2
          have r3 := hset.c3
          have r4 := hset.c4
          have r5 := hset.c5
          have r6 := hset.c6
          refine bodyPost_ret (v := .agg #[.int .i64 1, .string (s.extract a k), .int .i64 0, .bool false, .int .i64 0, .int .i64 ((k : Int)), .int .i64 0]) (by simp [results, Tryz.results19, go_sem, r0, r1, r2, r3, r4, r5, r6]) rfl ⟨below_gotSet HB.out (Nat.le_refl _) _ _ _ _ _ _ _, ?_⟩
          rw [HQ.out, if_neg h32]
          show _ = Ending.returned (.agg #[.int .i64 1, .string (bs ((s.data.toList.drop a).takeWhile (ofB wrdI))), .int .i64 0, .bool false, .int .i64 0, .int .i64 ((s.size - (s.data.toList.drop k).length : Nat) : Int), .int .i64 0])
          rw [HX.out, drop_len HTL.out.2]
      · have hd : decide ((k : Int) < (s.size : Int)) = false := decide_eq_false (by omega)
        clear hr hm
        by_cases h32 : 32 < k - a
        · exfalso
          omega
        · have hd32 : decide ((32 : Int) < (k : Int) - (a : Int)) = false := decide_eq_false (by omega)
          have hka : a ≤ k := HTL.out.1
          go_wp2_with (first
            | (go_at_call 40; with_reducible refine (rsmall5_calls _ _).mono ?_; rintro e w' ⟨rfl, rfl⟩; first | rw [hsm] | rw [hsm'])
            | (go_at_call 41; with_reducible refine (rbig5_calls _ _).mono ?_; rintro e w' ⟨rfl, rfl⟩; first | rw [hbg] | rw [hbg'])
            | (go_at_call 43; with_reducible refine (rfig5_calls _ _).mono ?_; rintro e w' ⟨rfl, rfl⟩; first | rw [hfg] | rw [hfg'] | rw [hfn] | rw [show figI 0 = false from rfl]))
          have hset := HG.out.set (.int .i64 1) (.string (s.extract a k)) (.int .i64 0) (.bool false) (.int .i64 0) (.int .i64 ((k : Int))) (.int .i64 0)
          have r0 := hset.c0
          have r1 := hset.c1
          have r2 := hset.c2
          have r3 := hset.c3
          have r4 := hset.c4
          have r5 := hset.c5
          have r6 := hset.c6
          refine bodyPost_ret (v := .agg #[.int .i64 1, .string (s.extract a k), .int .i64 0, .bool false, .int .i64 0, .int .i64 ((k : Int)), .int .i64 0]) (by simp [results, Tryz.results19, go_sem, r0, r1, r2, r3, r4, r5, r6]) rfl ⟨below_gotSet HB.out (Nat.le_refl _) _ _ _ _ _ _ _, ?_⟩
          rw [HQ.out, if_neg h32]
          show _ = Ending.returned (.agg #[.int .i64 1, .string (bs ((s.data.toList.drop a).takeWhile (ofB wrdI))), .int .i64 0, .bool false, .int .i64 0, .int .i64 ((s.size - (s.data.toList.drop k).length : Nat) : Int), .int .i64 0])
          rw [HX.out, drop_len HTL.out.2]
set_option maxRecDepth 100000 in
set_option maxHeartbeats 16000000 in
theorem rone_47_y (s : ByteArray) (a : Nat) (w : World) (ha : a < s.size) (hs : s.size ≤ 65536) (hn : a + 1 < s.size) (hc : (s[a]'ha) = 47) :
    Calls Tryz.prog 19 #[.string s, .int .i64 (a : Int)] w fun e w' => Below w.heap.size w w' ∧ e = .returned (gotV s.size (oneL (s[a]'ha) (s.data.toList.drop (a + 1)))) := by
  have HG := Lib.hid (IsGot.new (v0 := .int .i64 0) (v1 := .string ⟨#[]⟩) (v2 := .int .i64 0) (v3 := .bool false) (v4 := .int .i64 0) (v5 := .int .i64 0) (v6 := .int .i64 0) w)
  have HB := Lib.hid ((Below.refl w.heap.size w).alloc (Nat.le_refl _) (.cells #[.int .i64 0, .string ⟨#[]⟩, .int .i64 0, .bool false, .int .i64 0, .int .i64 0, .int .i64 0] 45))
  have hnd : decide ((a : Int) + 1 < (s.size : Int)) = true := decide_eq_true (by omega)
  have hsm : sml ((s[a]'ha).toNat : Int) = false := by rw [hc]; rfl
  have hbg : bgI ((s[a]'ha).toNat : Int) = false := by rw [hc]; rfl
  have hfg : figI ((s[a]'ha).toNat : Int) = false := by rw [hc]; rfl
  have hcv : ((s[a]'ha).toNat : Int) = 47 := by rw [hc]; rfl
  have hsm' : sml 47 = false := rfl
  have hbg' : bgI 47 = false := rfl
  have hfg' : figI 47 = false := rfl
  have HM := Lib.hid (show markTwo (47 :: s.data.toList.drop (a + 1)) = false from by simp [markTwo, List.isPrefixOf])
  go_enter Tryz.func19, Tryz.ntmps19
  have k0 := HG.out.c0; have k1 := HG.out.c1; have k2 := HG.out.c2; have k3 := HG.out.c3; have k4 := HG.out.c4; have k5 := HG.out.c5; have k6 := HG.out.c6
  have l0 := HG.out.fr 0; have l1 := HG.out.fr 1; have l2 := HG.out.fr 2; have l3 := HG.out.fr 3; have l4 := HG.out.fr 4; have l5 := HG.out.fr 5; have l6 := HG.out.fr 6
  go_wp2_with (first
    | (go_at_call 40; with_reducible refine (rsmall5_calls _ _).mono ?_; rintro e w' ⟨rfl, rfl⟩; first | rw [hsm] | rw [hsm'])
    | (go_at_call 41; with_reducible refine (rbig5_calls _ _).mono ?_; rintro e w' ⟨rfl, rfl⟩; first | rw [hbg] | rw [hbg'])
    | (go_at_call 43; with_reducible refine (rfig5_calls _ _).mono ?_; rintro e w' ⟨rfl, rfl⟩; first | rw [hfg] | rw [hfg'] | rw [hfn] | rw [show figI 0 = false from rfl]))
  refine bodyPost_ret (v := .agg #[.int .i64 4, .string (s.extract a (a + 1)), .int .i64 0, .bool false, .int .i64 0, .int .i64 ((a : Int) + 1), .int .i64 0]) (by simp [results, Tryz.results19, go_sem]) rfl ⟨(Below.refl w.heap.size w).alloc (Nat.le_refl _) _, ?_⟩
  rw [hc, oneL_markc (by decide) (by decide) (by decide) (by decide) (by decide), markL_one 47 _ (HM.out) (by decide), ext_one ha, hc]
  show _ = Ending.returned (.agg #[.int .i64 4, .string (bs [47]), .int .i64 0, .bool false, .int .i64 0, .int .i64 ((s.size - (s.data.toList.drop (a + 1)).length : Nat) : Int), .int .i64 0])
  rw [drop_len (show a + 1 ≤ s.size by omega)]
  rfl
set_option maxRecDepth 100000 in
set_option maxHeartbeats 16000000 in
theorem rone_62two_y (s : ByteArray) (a : Nat) (w : World) (ha : a < s.size) (hs : s.size ≤ 65536) (hn : a + 1 < s.size) (hc : (s[a]'ha) = 62) (hnx : s[a + 1]'hn = 61) :
    Calls Tryz.prog 19 #[.string s, .int .i64 (a : Int)] w fun e w' => Below w.heap.size w w' ∧ e = .returned (gotV s.size (oneL (s[a]'ha) (s.data.toList.drop (a + 1)))) := by
  have HG := Lib.hid (IsGot.new (v0 := .int .i64 0) (v1 := .string ⟨#[]⟩) (v2 := .int .i64 0) (v3 := .bool false) (v4 := .int .i64 0) (v5 := .int .i64 0) (v6 := .int .i64 0) w)
  have HB := Lib.hid ((Below.refl w.heap.size w).alloc (Nat.le_refl _) (.cells #[.int .i64 0, .string ⟨#[]⟩, .int .i64 0, .bool false, .int .i64 0, .int .i64 0, .int .i64 0] 45))
  have hnd : decide ((a : Int) + 1 < (s.size : Int)) = true := decide_eq_true (by omega)
  have hsm : sml ((s[a]'ha).toNat : Int) = false := by rw [hc]; rfl
  have hbg : bgI ((s[a]'ha).toNat : Int) = false := by rw [hc]; rfl
  have hfg : figI ((s[a]'ha).toNat : Int) = false := by rw [hc]; rfl
  have hcv : ((s[a]'ha).toNat : Int) = 62 := by rw [hc]; rfl
  have hsm' : sml 62 = false := rfl
  have hbg' : bgI 62 = false := rfl
  have hfg' : figI 62 = false := rfl
  have hnv : ((s[a + 1]'hn).toNat : Int) = 61 := by rw [hnx]; rfl
  have hfn : figI 61 = false := rfl
  go_enter Tryz.func19, Tryz.ntmps19
  have k0 := HG.out.c0; have k1 := HG.out.c1; have k2 := HG.out.c2; have k3 := HG.out.c3; have k4 := HG.out.c4; have k5 := HG.out.c5; have k6 := HG.out.c6
  have l0 := HG.out.fr 0; have l1 := HG.out.fr 1; have l2 := HG.out.fr 2; have l3 := HG.out.fr 3; have l4 := HG.out.fr 4; have l5 := HG.out.fr 5; have l6 := HG.out.fr 6
  go_wp2_with (first
    | (go_at_call 40; with_reducible refine (rsmall5_calls _ _).mono ?_; rintro e w' ⟨rfl, rfl⟩; first | rw [hsm] | rw [hsm'])
    | (go_at_call 41; with_reducible refine (rbig5_calls _ _).mono ?_; rintro e w' ⟨rfl, rfl⟩; first | rw [hbg] | rw [hbg'])
    | (go_at_call 43; with_reducible refine (rfig5_calls _ _).mono ?_; rintro e w' ⟨rfl, rfl⟩; first | rw [hfg] | rw [hfg'] | rw [hfn] | rw [show figI 0 = false from rfl]))
  refine bodyPost_ret (v := .agg #[.int .i64 4, .string (s.extract a (a + 2)), .int .i64 0, .bool false, .int .i64 0, .int .i64 ((a : Int) + 2), .int .i64 0]) (by simp [results, Tryz.results19, go_sem]) rfl ⟨(Below.refl w.heap.size w).alloc (Nat.le_refl _) _, ?_⟩
  rw [hc, drop_at hn, hnx, oneL_markc (by decide) (by decide) (by decide) (by decide) (by decide), markL_two 62 61 _ (by simp [markTwo, List.isPrefixOf]), ext_two hn, hc, hnx]
  show _ = Ending.returned (.agg #[.int .i64 4, .string (bs [62, 61]), .int .i64 0, .bool false, .int .i64 0, .int .i64 ((s.size - (s.data.toList.drop (a + 1 + 1)).length : Nat) : Int), .int .i64 0])
  rw [drop_len (show a + 1 + 1 ≤ s.size by omega)]
  rfl
set_option maxRecDepth 100000 in
set_option maxHeartbeats 16000000 in
theorem rone_lowno_n (s : ByteArray) (a : Nat) (w : World) (ha : a < s.size) (hs : s.size ≤ 65536) (hn : ¬ a + 1 < s.size) (hc : (s[a]'ha) = 45) :
    Calls Tryz.prog 19 #[.string s, .int .i64 (a : Int)] w fun e w' => Below w.heap.size w w' ∧ e = .returned (gotV s.size (oneL (s[a]'ha) (s.data.toList.drop (a + 1)))) := by
  have HG := Lib.hid (IsGot.new (v0 := .int .i64 0) (v1 := .string ⟨#[]⟩) (v2 := .int .i64 0) (v3 := .bool false) (v4 := .int .i64 0) (v5 := .int .i64 0) (v6 := .int .i64 0) w)
  have HB := Lib.hid ((Below.refl w.heap.size w).alloc (Nat.le_refl _) (.cells #[.int .i64 0, .string ⟨#[]⟩, .int .i64 0, .bool false, .int .i64 0, .int .i64 0, .int .i64 0] 45))
  have hnd : decide ((a : Int) + 1 < (s.size : Int)) = false := decide_eq_false (by omega)
  have hsm : sml ((s[a]'ha).toNat : Int) = false := by rw [hc]; rfl
  have hbg : bgI ((s[a]'ha).toNat : Int) = false := by rw [hc]; rfl
  have hfg : figI ((s[a]'ha).toNat : Int) = false := by rw [hc]; rfl
  have hcv : ((s[a]'ha).toNat : Int) = 45 := by rw [hc]; rfl
  have hsm' : sml 45 = false := rfl
  have hbg' : bgI 45 = false := rfl
  have hfg' : figI 45 = false := rfl
  go_enter Tryz.func19, Tryz.ntmps19
  have k0 := HG.out.c0; have k1 := HG.out.c1; have k2 := HG.out.c2; have k3 := HG.out.c3; have k4 := HG.out.c4; have k5 := HG.out.c5; have k6 := HG.out.c6
  have l0 := HG.out.fr 0; have l1 := HG.out.fr 1; have l2 := HG.out.fr 2; have l3 := HG.out.fr 3; have l4 := HG.out.fr 4; have l5 := HG.out.fr 5; have l6 := HG.out.fr 6
  go_wp2_with (first
    | (go_at_call 40; with_reducible refine (rsmall5_calls _ _).mono ?_; rintro e w' ⟨rfl, rfl⟩; first | rw [hsm] | rw [hsm'])
    | (go_at_call 41; with_reducible refine (rbig5_calls _ _).mono ?_; rintro e w' ⟨rfl, rfl⟩; first | rw [hbg] | rw [hbg'])
    | (go_at_call 43; with_reducible refine (rfig5_calls _ _).mono ?_; rintro e w' ⟨rfl, rfl⟩; first | rw [hfg] | rw [hfg'] | rw [hfn] | rw [show figI 0 = false from rfl]))
  refine bodyPost_ret (v := .agg #[.int .i64 0, .string ⟨#[]⟩, .int .i64 0, .bool false, .int .i64 0, .int .i64 0, .int .i64 2]) (by simp [results, Tryz.results19, go_sem]) rfl ⟨(Below.refl w.heap.size w).alloc (Nat.le_refl _) _, ?_⟩
  rw [hc, drop_end (by omega), oneL_low_end]
  rfl
set_option maxRecDepth 100000 in
set_option maxHeartbeats 16000000 in
theorem rone_47_n (s : ByteArray) (a : Nat) (w : World) (ha : a < s.size) (hs : s.size ≤ 65536) (hn : ¬ a + 1 < s.size) (hc : (s[a]'ha) = 47) :
    Calls Tryz.prog 19 #[.string s, .int .i64 (a : Int)] w fun e w' => Below w.heap.size w w' ∧ e = .returned (gotV s.size (oneL (s[a]'ha) (s.data.toList.drop (a + 1)))) := by
  have HG := Lib.hid (IsGot.new (v0 := .int .i64 0) (v1 := .string ⟨#[]⟩) (v2 := .int .i64 0) (v3 := .bool false) (v4 := .int .i64 0) (v5 := .int .i64 0) (v6 := .int .i64 0) w)
  have HB := Lib.hid ((Below.refl w.heap.size w).alloc (Nat.le_refl _) (.cells #[.int .i64 0, .string ⟨#[]⟩, .int .i64 0, .bool false, .int .i64 0, .int .i64 0, .int .i64 0] 45))
  have hnd : decide ((a : Int) + 1 < (s.size : Int)) = false := decide_eq_false (by omega)
  have hsm : sml ((s[a]'ha).toNat : Int) = false := by rw [hc]; rfl
  have hbg : bgI ((s[a]'ha).toNat : Int) = false := by rw [hc]; rfl
  have hfg : figI ((s[a]'ha).toNat : Int) = false := by rw [hc]; rfl
  have hcv : ((s[a]'ha).toNat : Int) = 47 := by rw [hc]; rfl
  have hsm' : sml 47 = false := rfl
  have hbg' : bgI 47 = false := rfl
  have hfg' : figI 47 = false := rfl
  have HM := Lib.hid (show markTwo (47 :: s.data.toList.drop (a + 1)) = false from by simp [markTwo, List.isPrefixOf])
  go_enter Tryz.func19, Tryz.ntmps19
  have k0 := HG.out.c0; have k1 := HG.out.c1; have k2 := HG.out.c2; have k3 := HG.out.c3; have k4 := HG.out.c4; have k5 := HG.out.c5; have k6 := HG.out.c6
  have l0 := HG.out.fr 0; have l1 := HG.out.fr 1; have l2 := HG.out.fr 2; have l3 := HG.out.fr 3; have l4 := HG.out.fr 4; have l5 := HG.out.fr 5; have l6 := HG.out.fr 6
  go_wp2_with (first
    | (go_at_call 40; with_reducible refine (rsmall5_calls _ _).mono ?_; rintro e w' ⟨rfl, rfl⟩; first | rw [hsm] | rw [hsm'])
    | (go_at_call 41; with_reducible refine (rbig5_calls _ _).mono ?_; rintro e w' ⟨rfl, rfl⟩; first | rw [hbg] | rw [hbg'])
    | (go_at_call 43; with_reducible refine (rfig5_calls _ _).mono ?_; rintro e w' ⟨rfl, rfl⟩; first | rw [hfg] | rw [hfg'] | rw [hfn] | rw [show figI 0 = false from rfl]))
  refine bodyPost_ret (v := .agg #[.int .i64 4, .string (s.extract a (a + 1)), .int .i64 0, .bool false, .int .i64 0, .int .i64 ((a : Int) + 1), .int .i64 0]) (by simp [results, Tryz.results19, go_sem]) rfl ⟨(Below.refl w.heap.size w).alloc (Nat.le_refl _) _, ?_⟩
  rw [hc, oneL_markc (by decide) (by decide) (by decide) (by decide) (by decide), markL_one 47 _ (HM.out) (by decide), ext_one ha, hc]
  show _ = Ending.returned (.agg #[.int .i64 4, .string (bs [47]), .int .i64 0, .bool false, .int .i64 0, .int .i64 ((s.size - (s.data.toList.drop (a + 1)).length : Nat) : Int), .int .i64 0])
  rw [drop_len (show a + 1 ≤ s.size by omega)]
  rfl
set_option maxRecDepth 100000 in
set_option maxHeartbeats 16000000 in
theorem rone_else_n (s : ByteArray) (a : Nat) (w : World) (ha : a < s.size) (hs : s.size ≤ 65536) (hn : ¬ a + 1 < s.size) (hsm : sml ((s[a]'ha).toNat : Int) = false) (hbg : bgI ((s[a]'ha).toNat : Int) = false) (hfg : figI ((s[a]'ha).toNat : Int) = false) (e45 : (((s[a]'ha).toNat : Int) == 45) = false) (e39 : (((s[a]'ha).toNat : Int) == 39) = false) (e58 : (((s[a]'ha).toNat : Int) == 58) = false) (e60 : (((s[a]'ha).toNat : Int) == 60) = false) (e62 : (((s[a]'ha).toNat : Int) == 62) = false) (e33 : (((s[a]'ha).toNat : Int) == 33) = false) (e40 : (((s[a]'ha).toNat : Int) == 40) = false) (e41 : (((s[a]'ha).toNat : Int) == 41) = false) (e44 : (((s[a]'ha).toNat : Int) == 44) = false) (e46 : (((s[a]'ha).toNat : Int) == 46) = false) (e47 : (((s[a]'ha).toNat : Int) == 47) = false) (e61 : (((s[a]'ha).toNat : Int) == 61) = false) :
    Calls Tryz.prog 19 #[.string s, .int .i64 (a : Int)] w fun e w' => Below w.heap.size w w' ∧ e = .returned (gotV s.size (oneL (s[a]'ha) (s.data.toList.drop (a + 1)))) := by
  have HG := Lib.hid (IsGot.new (v0 := .int .i64 0) (v1 := .string ⟨#[]⟩) (v2 := .int .i64 0) (v3 := .bool false) (v4 := .int .i64 0) (v5 := .int .i64 0) (v6 := .int .i64 0) w)
  have HB := Lib.hid ((Below.refl w.heap.size w).alloc (Nat.le_refl _) (.cells #[.int .i64 0, .string ⟨#[]⟩, .int .i64 0, .bool false, .int .i64 0, .int .i64 0, .int .i64 0] 45))
  have hnd : decide ((a : Int) + 1 < (s.size : Int)) = false := decide_eq_false (by omega)
  have HQ := Lib.hid (show oneL (s[a]'ha) (s.data.toList.drop (a + 1)) = .bad 2 from by
    have hmo : markOne (s[a]'ha) = false := by unfold markOne; rw [byteNot (d := 40) e40 (by decide), byteNot (d := 41) e41 (by decide), byteNot (d := 44) e44 (by decide), byteNot (d := 46) e46 (by decide), byteNot (d := 47) e47 (by decide), byteNot (d := 60) e60 (by decide), byteNot (d := 62) e62 (by decide), byteNot (d := 61) e61 (by decide)]; rfl
    rw [oneL_markc hsm hbg hfg (byteNot (d := 45) e45 (by decide)) (byteNot (d := 39) e39 (by decide)), markL_no (byteNot (d := 58) e58 (by decide)) (byteNot (d := 60) e60 (by decide)) (byteNot (d := 62) e62 (by decide)) (byteNot (d := 33) e33 (by decide)) hmo])
  go_enter Tryz.func19, Tryz.ntmps19
  have k0 := HG.out.c0; have k1 := HG.out.c1; have k2 := HG.out.c2; have k3 := HG.out.c3; have k4 := HG.out.c4; have k5 := HG.out.c5; have k6 := HG.out.c6
  have l0 := HG.out.fr 0; have l1 := HG.out.fr 1; have l2 := HG.out.fr 2; have l3 := HG.out.fr 3; have l4 := HG.out.fr 4; have l5 := HG.out.fr 5; have l6 := HG.out.fr 6
  go_wp2_with (first
    | (go_at_call 40; with_reducible refine (rsmall5_calls _ _).mono ?_; rintro e w' ⟨rfl, rfl⟩; first | rw [hsm] | rw [hsm'])
    | (go_at_call 41; with_reducible refine (rbig5_calls _ _).mono ?_; rintro e w' ⟨rfl, rfl⟩; first | rw [hbg] | rw [hbg'])
    | (go_at_call 43; with_reducible refine (rfig5_calls _ _).mono ?_; rintro e w' ⟨rfl, rfl⟩; first | rw [hfg] | rw [hfg'] | rw [hfn] | rw [show figI 0 = false from rfl]))
  refine bodyPost_ret (v := .agg #[.int .i64 0, .string ⟨#[]⟩, .int .i64 0, .bool false, .int .i64 0, .int .i64 0, .int .i64 2]) (by simp [results, Tryz.results19, go_sem]) rfl ⟨(Below.refl w.heap.size w).alloc (Nat.le_refl _) _, ?_⟩
  rw [HQ.out]
  rfl
end Go.Proofs.YtdfjhhhbkgelaaaGreatDoor.V
