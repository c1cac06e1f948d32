/- The document's one: a part of its cases. (printed by gen_rone.py) -/
import Derived.Test.YtdfjhhhbkgelaaaGreatDoorR5h
namespace Go.Proofs.YtdfjhhhbkgelaaaGreatDoor.V
set_option linter.unusedVariables false
set_option linter.unusedSimpArgs false
open Go.RowKit

set_option maxRecDepth 100000 in
set_option maxHeartbeats 16000000 in
theorem rone_big_n (s : ByteArray) (a : Nat) (w : World) (ha : a < s.size) (hs : s.size ≤ 65536) (hn : ¬ a + 1 < s.size) (hsm : sml ((s[a]'ha).toNat : Int) = false) (hbg : bgI ((s[a]'ha).toNat : Int) = true) :
    Calls Tryz.prog 19 #[.string s, .int .i64 (a : Int)] w fun e w' => Below w.heap.size w w' ∧ e = .returned (gotV s.size (oneL (s[a]'ha) (s.data.toList.drop (a + 1)))) := by
  have HG := Lib.hid (IsGot.new (v0 := .int .i64 0) (v1 := .string ⟨#[]⟩) (v2 := .int .i64 0) (v3 := .bool false) (v4 := .int .i64 0) (v5 := .int .i64 0) (v6 := .int .i64 0) w)
  have HB := Lib.hid ((Below.refl w.heap.size w).alloc (Nat.le_refl _) (.cells #[.int .i64 0, .string ⟨#[]⟩, .int .i64 0, .bool false, .int .i64 0, .int .i64 0, .int .i64 0] 45))
  have hnd : decide ((a : Int) + 1 < (s.size : Int)) = false := decide_eq_false (by omega)
  have HQ := Lib.hid (show oneL (s[a]'ha) (s.data.toList.drop (a + 1)) = if 32 < runB wrdI s a - a then .bad 4 else .tok ⟨2, (s.data.toList.drop a).takeWhile (ofB wrdI), 0, false⟩ (s.data.toList.drop (runB wrdI s a)) from by
    rw [oneL_big hsm hbg, ← drop_at ha]
    unfold namedL
    rw [runB_drop, show runB wrdI s a - a = ((s.data.toList.drop a).takeWhile (ofB wrdI)).length by unfold runB; omega])
  obtain ⟨T, hT⟩ : ∃ T, runB wrdI s a = T := ⟨_, rfl⟩
  have hTl := runB_le (P := wrdI) (s := s) (a := a) (by omega)
  have HX := Lib.hid (bs_of (runB_take wrdI s a))
  rw [hT] at hTl HQ HX
  have HTL := Lib.hid hTl
  have HT := Lib.hid hT
  clear hT hTl
  have hw0g : ∃ w0, w.alloc (.cells #[.int .i64 0, .string ⟨#[]⟩, .int .i64 0, .bool false, .int .i64 0, .int .i64 0, .int .i64 0] 45) = w0 := ⟨_, rfl⟩
  go_enter Tryz.func19, Tryz.ntmps19
  have k0 := HG.out.c0; have k1 := HG.out.c1; have k2 := HG.out.c2; have k3 := HG.out.c3; have k4 := HG.out.c4; have k5 := HG.out.c5; have k6 := HG.out.c6
  have l0 := HG.out.fr 0; have l1 := HG.out.fr 1; have l2 := HG.out.fr 2; have l3 := HG.out.fr 3; have l4 := HG.out.fr 4; have l5 := HG.out.fr 5; have l6 := HG.out.fr 6
  go_wp2_with (first
    | (go_at_call 40; with_reducible refine (rsmall5_calls _ _).mono ?_; rintro e w' ⟨rfl, rfl⟩; first | rw [hsm] | rw [hsm'])
    | (go_at_call 41; with_reducible refine (rbig5_calls _ _).mono ?_; rintro e w' ⟨rfl, rfl⟩; first | rw [hbg] | rw [hbg'])
    | (go_at_call 43; with_reducible refine (rfig5_calls _ _).mono ?_; rintro e w' ⟨rfl, rfl⟩; first | rw [hfg] | rw [hfg'] | rw [hfn] | rw [show figI 0 = false from rfl]))
  obtain ⟨w0, hw0⟩ := hw0g
  rw [hw0] at HG HB k0 k1 k2 k3 k4 k5 k6 l0 l1 l2 l3 l4 l5 l6 ⊢
  go_loopw [7] (fun i wr => ∃ k : Nat, a ≤ k ∧ k ≤ s.size ∧ i = .int .i64 (k : Int) ∧ runB wrdI s k = T ∧ w0 = wr) (fun i _ => s.size + 1 - (intOf i).toNat)
  case atStart => exact ⟨a, Nat.le_refl _, Nat.le_of_lt ha, rfl, HT.out, rfl⟩
  case round =>
    obtain ⟨k, hak, hk, rfl, hr, rfl⟩ := hrel
    cases hm : moreB wrdI s k with
    | true =>
      obtain ⟨hkl, hr2⟩ := runB_more hm
      have hd : decide ((k : Int) < (s.size : Int)) = true := decide_eq_true (by omega)
      have hwd : wrdI ((s[k]'hkl).toNat : Int) = true := ofB_at hm hkl
      have HR := Lib.hid (hr2.trans hr)
      clear hr hr2 hm
      go_wp2_with (go_at_call 42; with_reducible refine (rword5_calls _ _).mono ?_; rintro e w' ⟨rfl, rfl⟩; rw [hwd])
      go_roundw
      case rel => exact ⟨k + 1, by omega, hkl, by simp, HR.out, trivial⟩
      case measure => simp [intOf]; omega
    | false =>
      have hkT : k = T := by rw [← hr, runB_stop hm]
      subst hkT
      by_cases hkl : k < s.size
      · have hd : decide ((k : Int) < (s.size : Int)) = true := decide_eq_true (by omega)
        have hwd : wrdI ((s[k]'hkl).toNat : Int) = false := ofB_no hm hkl
        clear hr hm
        by_cases h32 : 32 < k - a
        · exfalso
          omega
        · have hd32 : decide ((32 : Int) < (k : Int) - (a : Int)) = false := decide_eq_false (by omega)
          have hka : a ≤ k := HTL.out.1
          go_wp2_with (first
            | (go_at_call 40; with_reducible refine (rsmall5_calls _ _).mono ?_; rintro e w' ⟨rfl, rfl⟩; first | rw [hsm] | rw [hsm'])
            | (go_at_call 41; with_reducible refine (rbig5_calls _ _).mono ?_; rintro e w' ⟨rfl, rfl⟩; first | rw [hbg] | rw [hbg'])
            | (go_at_call 43; with_reducible refine (rfig5_calls _ _).mono ?_; rintro e w' ⟨rfl, rfl⟩; first | rw [hfg] | rw [hfg'] | rw [hfn] | rw [show figI 0 = false from rfl])
            | (go_at_call 42; with_reducible refine (rword5_calls _ _).mono ?_; rintro e w' ⟨rfl, rfl⟩; rw [hwd]))
          have hset := HG.out.set (.int .i64 2) (.string (s.extract a k)) (.int .i64 0) (.bool false) (.int .i64 0) (.int .i64 ((k : Int))) (.int .i64 0)
          have r0 := hset.c0
          have r1 := hset.c1
          have r2 := hset.c2
          have r3 := hset.c3
          have r4 := hset.c4
          have r5 := hset.c5
          have r6 := hset.c6
          refine bodyPost_ret (v := .agg #[.int .i64 2, .string (s.extract a k), .int .i64 0, .bool false, .int .i64 0, .int .i64 ((k : Int)), .int .i64 0]) (by simp [results, Tryz.results19, go_sem, r0, r1, r2, r3, r4, r5, r6]) rfl ⟨below_gotSet HB.out (Nat.le_refl _) _ _ _ _ _ _ _, ?_⟩
          rw [HQ.out, if_neg h32]
          show _ = Ending.returned (.agg #[.int .i64 2, .string (bs ((s.data.toList.drop a).takeWhile (ofB wrdI))), .int .i64 0, .bool false, .int .i64 0, .int .i64 ((s.size - (s.data.toList.drop k).length : Nat) : Int), .int .i64 0])
          rw [HX.out, drop_len HTL.out.2]
      · have hd : decide ((k : Int) < (s.size : Int)) = false := decide_eq_false (by omega)
        clear hr hm
        by_cases h32 : 32 < k - a
        · exfalso
          omega
        · have hd32 : decide ((32 : Int) < (k : Int) - (a : Int)) = false := decide_eq_false (by omega)
          have hka : a ≤ k := HTL.out.1
          go_wp2_with (first
            | (go_at_call 40; with_reducible refine (rsmall5_calls _ _).mono ?_; rintro e w' ⟨rfl, rfl⟩; first | rw [hsm] | rw [hsm'])
            | (go_at_call 41; with_reducible refine (rbig5_calls _ _).mono ?_; rintro e w' ⟨rfl, rfl⟩; first | rw [hbg] | rw [hbg'])
            | (go_at_call 43; with_reducible refine (rfig5_calls _ _).mono ?_; rintro e w' ⟨rfl, rfl⟩; first | rw [hfg] | rw [hfg'] | rw [hfn] | rw [show figI 0 = false from rfl]))
          have hset := HG.out.set (.int .i64 2) (.string (s.extract a k)) (.int .i64 0) (.bool false) (.int .i64 0) (.int .i64 ((k : Int))) (.int .i64 0)
          have r0 := hset.c0
          have r1 := hset.c1
          have r2 := hset.c2
          have r3 := hset.c3
          have r4 := hset.c4
          have r5 := hset.c5
          have r6 := hset.c6
          refine bodyPost_ret (v := .agg #[.int .i64 2, .string (s.extract a k), .int .i64 0, .bool false, .int .i64 0, .int .i64 ((k : Int)), .int .i64 0]) (by simp [results, Tryz.results19, go_sem, r0, r1, r2, r3, r4, r5, r6]) rfl ⟨below_gotSet HB.out (Nat.le_refl _) _ _ _ _ _ _ _, ?_⟩
          rw [HQ.out, if_neg h32]
          show _ = Ending.returned (.agg #[.int .i64 2, .string (bs ((s.data.toList.drop a).takeWhile (ofB wrdI))), .int .i64 0, .bool false, .int .i64 0, .int .i64 ((s.size - (s.data.toList.drop k).length : Nat) : Int), .int .i64 0])
          rw [HX.out, drop_len HTL.out.2]
set_option maxRecDepth 100000 in
set_option maxHeartbeats 16000000 in
theorem rone_61_y (s : ByteArray) (a : Nat) (w : World) (ha : a < s.size) (hs : s.size ≤ 65536) (hn : a + 1 < s.size) (hc : (s[a]'ha) = 61) :
    Calls Tryz.prog 19 #[.string s, .int .i64 (a : Int)] w fun e w' => Below w.heap.size w w' ∧ e = .returned (gotV s.size (oneL (s[a]'ha) (s.data.toList.drop (a + 1)))) := by
  have HG := Lib.hid (IsGot.new (v0 := .int .i64 0) (v1 := .string ⟨#[]⟩) (v2 := .int .i64 0) (v3 := .bool false) (v4 := .int .i64 0) (v5 := .int .i64 0) (v6 := .int .i64 0) w)
  have HB := Lib.hid ((Below.refl w.heap.size w).alloc (Nat.le_refl _) (.cells #[.int .i64 0, .string ⟨#[]⟩, .int .i64 0, .bool false, .int .i64 0, .int .i64 0, .int .i64 0] 45))
  have hnd : decide ((a : Int) + 1 < (s.size : Int)) = true := decide_eq_true (by omega)
  have hsm : sml ((s[a]'ha).toNat : Int) = false := by rw [hc]; rfl
  have hbg : bgI ((s[a]'ha).toNat : Int) = false := by rw [hc]; rfl
  have hfg : figI ((s[a]'ha).toNat : Int) = false := by rw [hc]; rfl
  have hcv : ((s[a]'ha).toNat : Int) = 61 := by rw [hc]; rfl
  have hsm' : sml 61 = false := rfl
  have hbg' : bgI 61 = false := rfl
  have hfg' : figI 61 = false := rfl
  have HM := Lib.hid (show markTwo (61 :: s.data.toList.drop (a + 1)) = false from by simp [markTwo, List.isPrefixOf])
  go_enter Tryz.func19, Tryz.ntmps19
  have k0 := HG.out.c0; have k1 := HG.out.c1; have k2 := HG.out.c2; have k3 := HG.out.c3; have k4 := HG.out.c4; have k5 := HG.out.c5; have k6 := HG.out.c6
  have l0 := HG.out.fr 0; have l1 := HG.out.fr 1; have l2 := HG.out.fr 2; have l3 := HG.out.fr 3; have l4 := HG.out.fr 4; have l5 := HG.out.fr 5; have l6 := HG.out.fr 6
  go_wp2_with (first
    | (go_at_call 40; with_reducible refine (rsmall5_calls _ _).mono ?_; rintro e w' ⟨rfl, rfl⟩; first | rw [hsm] | rw [hsm'])
    | (go_at_call 41; with_reducible refine (rbig5_calls _ _).mono ?_; rintro e w' ⟨rfl, rfl⟩; first | rw [hbg] | rw [hbg'])
    | (go_at_call 43; with_reducible refine (rfig5_calls _ _).mono ?_; rintro e w' ⟨rfl, rfl⟩; first | rw [hfg] | rw [hfg'] | rw [hfn] | rw [show figI 0 = false from rfl]))
  refine bodyPost_ret (v := .agg #[.int .i64 4, .string (s.extract a (a + 1)), .int .i64 0, .bool false, .int .i64 0, .int .i64 ((a : Int) + 1), .int .i64 0]) (by simp [results, Tryz.results19, go_sem]) rfl ⟨(Below.refl w.heap.size w).alloc (Nat.le_refl _) _, ?_⟩
  rw [hc, oneL_markc (by decide) (by decide) (by decide) (by decide) (by decide), markL_one 61 _ (HM.out) (by decide), ext_one ha, hc]
  show _ = Ending.returned (.agg #[.int .i64 4, .string (bs [61]), .int .i64 0, .bool false, .int .i64 0, .int .i64 ((s.size - (s.data.toList.drop (a + 1)).length : Nat) : Int), .int .i64 0])
  rw [drop_len (show a + 1 ≤ s.size by omega)]
  rfl
set_option maxRecDepth 100000 in
set_option maxHeartbeats 16000000 in
theorem rone_62one_y (s : ByteArray) (a : Nat) (w : World) (ha : a < s.size) (hs : s.size ≤ 65536) (hn : a + 1 < s.size) (hc : (s[a]'ha) = 62) (hnx : (((s[a + 1]'hn).toNat : Int) == 61) = false) :
    Calls Tryz.prog 19 #[.string s, .int .i64 (a : Int)] w fun e w' => Below w.heap.size w w' ∧ e = .returned (gotV s.size (oneL (s[a]'ha) (s.data.toList.drop (a + 1)))) := by
  have HG := Lib.hid (IsGot.new (v0 := .int .i64 0) (v1 := .string ⟨#[]⟩) (v2 := .int .i64 0) (v3 := .bool false) (v4 := .int .i64 0) (v5 := .int .i64 0) (v6 := .int .i64 0) w)
  have HB := Lib.hid ((Below.refl w.heap.size w).alloc (Nat.le_refl _) (.cells #[.int .i64 0, .string ⟨#[]⟩, .int .i64 0, .bool false, .int .i64 0, .int .i64 0, .int .i64 0] 45))
  have hnd : decide ((a : Int) + 1 < (s.size : Int)) = true := decide_eq_true (by omega)
  have hsm : sml ((s[a]'ha).toNat : Int) = false := by rw [hc]; rfl
  have hbg : bgI ((s[a]'ha).toNat : Int) = false := by rw [hc]; rfl
  have hfg : figI ((s[a]'ha).toNat : Int) = false := by rw [hc]; rfl
  have hcv : ((s[a]'ha).toNat : Int) = 62 := by rw [hc]; rfl
  have hsm' : sml 62 = false := rfl
  have hbg' : bgI 62 = false := rfl
  have hfg' : figI 62 = false := rfl
  have HM := Lib.hid (show markTwo (62 :: s.data.toList.drop (a + 1)) = false from by rw [drop_at hn]; have h := byteNot (d := 61) hnx (by decide); simp [markTwo, List.isPrefixOf] ; simpa using fun e => by rw [← e] at h; simp at h)
  go_enter Tryz.func19, Tryz.ntmps19
  have k0 := HG.out.c0; have k1 := HG.out.c1; have k2 := HG.out.c2; have k3 := HG.out.c3; have k4 := HG.out.c4; have k5 := HG.out.c5; have k6 := HG.out.c6
  have l0 := HG.out.fr 0; have l1 := HG.out.fr 1; have l2 := HG.out.fr 2; have l3 := HG.out.fr 3; have l4 := HG.out.fr 4; have l5 := HG.out.fr 5; have l6 := HG.out.fr 6
  go_wp2_with (first
    | (go_at_call 40; with_reducible refine (rsmall5_calls _ _).mono ?_; rintro e w' ⟨rfl, rfl⟩; first | rw [hsm] | rw [hsm'])
    | (go_at_call 41; with_reducible refine (rbig5_calls _ _).mono ?_; rintro e w' ⟨rfl, rfl⟩; first | rw [hbg] | rw [hbg'])
    | (go_at_call 43; with_reducible refine (rfig5_calls _ _).mono ?_; rintro e w' ⟨rfl, rfl⟩; first | rw [hfg] | rw [hfg'] | rw [hfn] | rw [show figI 0 = false from rfl]))
  refine bodyPost_ret (v := .agg #[.int .i64 4, .string (s.extract a (a + 1)), .int .i64 0, .bool false, .int .i64 0, .int .i64 ((a : Int) + 1), .int .i64 0]) (by simp [results, Tryz.results19, go_sem]) rfl ⟨(Below.refl w.heap.size w).alloc (Nat.le_refl _) _, ?_⟩
  rw [hc, oneL_markc (by decide) (by decide) (by decide) (by decide) (by decide), markL_one 62 _ (HM.out) (by decide), ext_one ha, hc]
  show _ = Ending.returned (.agg #[.int .i64 4, .string (bs [62]), .int .i64 0, .bool false, .int .i64 0, .int .i64 ((s.size - (s.data.toList.drop (a + 1)).length : Nat) : Int), .int .i64 0])
  rw [drop_len (show a + 1 ≤ s.size by omega)]
  rfl
set_option maxRecDepth 100000 in
set_option maxHeartbeats 16000000 in
theorem rone_quot_n (s : ByteArray) (a : Nat) (w : World) (ha : a < s.size) (hs : s.size ≤ 65536) (hn : ¬ a + 1 < s.size) (hc : (s[a]'ha) = 39) :
    Calls Tryz.prog 19 #[.string s, .int .i64 (a : Int)] w fun e w' => Below w.heap.size w w' ∧ e = .returned (gotV s.size (oneL (s[a]'ha) (s.data.toList.drop (a + 1)))) := by
  have HG := Lib.hid (IsGot.new (v0 := .int .i64 0) (v1 := .string ⟨#[]⟩) (v2 := .int .i64 0) (v3 := .bool false) (v4 := .int .i64 0) (v5 := .int .i64 0) (v6 := .int .i64 0) w)
  have HB := Lib.hid ((Below.refl w.heap.size w).alloc (Nat.le_refl _) (.cells #[.int .i64 0, .string ⟨#[]⟩, .int .i64 0, .bool false, .int .i64 0, .int .i64 0, .int .i64 0] 45))
  have hnd : decide ((a : Int) + 1 < (s.size : Int)) = false := decide_eq_false (by omega)
  have hsm : sml ((s[a]'ha).toNat : Int) = false := by rw [hc]; rfl
  have hbg : bgI ((s[a]'ha).toNat : Int) = false := by rw [hc]; rfl
  have hfg : figI ((s[a]'ha).toNat : Int) = false := by rw [hc]; rfl
  have hcv : ((s[a]'ha).toNat : Int) = 39 := by rw [hc]; rfl
  have hsm' : sml 39 = false := rfl
  have hbg' : bgI 39 = false := rfl
  have hfg' : figI 39 = false := rfl
  obtain ⟨v0, v1, v2, v3, v4, v5, v6, hv⟩ := gotV_form s.size (qres (quotL (s.data.toList.drop (a + 1))))
  have HV := Lib.hid hv
  have HC := Lib.hid (fun (W : World) => (show Calls Tryz.prog 45 #[.string s, .int .i64 ((a : Int) + 1)] W (fun e w' => Below W.heap.size W w' ∧ e = .returned (.agg #[.int .i64 v0, .string v1, .int .i64 v2, .bool v3, .int .i64 v4, .int .i64 v5, .int .i64 v6])) from by rw [← HV.out]; exact rquoted_calls s (a + 1) W ha hs))
  clear hv
  go_enter Tryz.func19, Tryz.ntmps19
  have k0 := HG.out.c0; have k1 := HG.out.c1; have k2 := HG.out.c2; have k3 := HG.out.c3; have k4 := HG.out.c4; have k5 := HG.out.c5; have k6 := HG.out.c6
  have l0 := HG.out.fr 0; have l1 := HG.out.fr 1; have l2 := HG.out.fr 2; have l3 := HG.out.fr 3; have l4 := HG.out.fr 4; have l5 := HG.out.fr 5; have l6 := HG.out.fr 6
  go_wp2_with (first
    | (go_at_call 40; with_reducible refine (rsmall5_calls _ _).mono ?_; rintro e w' ⟨rfl, rfl⟩; first | rw [hsm] | rw [hsm'])
    | (go_at_call 41; with_reducible refine (rbig5_calls _ _).mono ?_; rintro e w' ⟨rfl, rfl⟩; first | rw [hbg] | rw [hbg'])
    | (go_at_call 43; with_reducible refine (rfig5_calls _ _).mono ?_; rintro e w' ⟨rfl, rfl⟩; first | rw [hfg] | rw [hfg'] | rw [hfn] | rw [show figI 0 = false from rfl])
    | (go_at_call 45; ((with_reducible refine (HC.out _).mono ?_); rintro e w2 ⟨hb2, rfl⟩; have hG2 := HG.out.below hb2; have g0 := hG2.c0; have g1 := hG2.c1; have g2 := hG2.c2; have g3 := hG2.c3; have g4 := hG2.c4; have g5 := hG2.c5; have g6 := hG2.c6; have m0 := hG2.fr 0; have m1 := hG2.fr 1; have m2 := hG2.fr 2; have m3 := hG2.fr 3; have m4 := hG2.fr 4; have m5 := hG2.fr 5; have m6 := hG2.fr 6; have HG2 := Lib.hid hG2; have HB2 := Lib.hid (HB.out.trans (hb2.mono HB.out.size)); clear hb2 hG2)))
  have hset := HG2.out.set (.int .i64 v0) (.string v1) (.int .i64 v2) (.bool v3) (.int .i64 v4) (.int .i64 v5) (.int .i64 v6)
  have r0 := hset.c0
  have r1 := hset.c1
  have r2 := hset.c2
  have r3 := hset.c3
  have r4 := hset.c4
  have r5 := hset.c5
  have r6 := hset.c6
  refine bodyPost_ret (v := .agg #[.int .i64 v0, .string v1, .int .i64 v2, .bool v3, .int .i64 v4, .int .i64 v5, .int .i64 v6]) (by simp [results, Tryz.results19, go_sem, r0, r1, r2, r3, r4, r5, r6]) rfl ⟨below_gotSet HB2.out (Nat.le_refl _) _ _ _ _ _ _ _, ?_⟩
  rw [hc, oneL_quot, HV.out]
set_option maxRecDepth 100000 in
set_option maxHeartbeats 16000000 in
theorem rone_61_n (s : ByteArray) (a : Nat) (w : World) (ha : a < s.size) (hs : s.size ≤ 65536) (hn : ¬ a + 1 < s.size) (hc : (s[a]'ha) = 61) :
    Calls Tryz.prog 19 #[.string s, .int .i64 (a : Int)] w fun e w' => Below w.heap.size w w' ∧ e = .returned (gotV s.size (oneL (s[a]'ha) (s.data.toList.drop (a + 1)))) := by
  have HG := Lib.hid (IsGot.new (v0 := .int .i64 0) (v1 := .string ⟨#[]⟩) (v2 := .int .i64 0) (v3 := .bool false) (v4 := .int .i64 0) (v5 := .int .i64 0) (v6 := .int .i64 0) w)
  have HB := Lib.hid ((Below.refl w.heap.size w).alloc (Nat.le_refl _) (.cells #[.int .i64 0, .string ⟨#[]⟩, .int .i64 0, .bool false, .int .i64 0, .int .i64 0, .int .i64 0] 45))
  have hnd : decide ((a : Int) + 1 < (s.size : Int)) = false := decide_eq_false (by omega)
  have hsm : sml ((s[a]'ha).toNat : Int) = false := by rw [hc]; rfl
  have hbg : bgI ((s[a]'ha).toNat : Int) = false := by rw [hc]; rfl
  have hfg : figI ((s[a]'ha).toNat : Int) = false := by rw [hc]; rfl
  have hcv : ((s[a]'ha).toNat : Int) = 61 := by rw [hc]; rfl
  have hsm' : sml 61 = false := rfl
  have hbg' : bgI 61 = false := rfl
  have hfg' : figI 61 = false := rfl
  have HM := Lib.hid (show markTwo (61 :: s.data.toList.drop (a + 1)) = false from by simp [markTwo, List.isPrefixOf])
  go_enter Tryz.func19, Tryz.ntmps19
  have k0 := HG.out.c0; have k1 := HG.out.c1; have k2 := HG.out.c2; have k3 := HG.out.c3; have k4 := HG.out.c4; have k5 := HG.out.c5; have k6 := HG.out.c6
  have l0 := HG.out.fr 0; have l1 := HG.out.fr 1; have l2 := HG.out.fr 2; have l3 := HG.out.fr 3; have l4 := HG.out.fr 4; have l5 := HG.out.fr 5; have l6 := HG.out.fr 6
  go_wp2_with (first
    | (go_at_call 40; with_reducible refine (rsmall5_calls _ _).mono ?_; rintro e w' ⟨rfl, rfl⟩; first | rw [hsm] | rw [hsm'])
    | (go_at_call 41; with_reducible refine (rbig5_calls _ _).mono ?_; rintro e w' ⟨rfl, rfl⟩; first | rw [hbg] | rw [hbg'])
    | (go_at_call 43; with_reducible refine (rfig5_calls _ _).mono ?_; rintro e w' ⟨rfl, rfl⟩; first | rw [hfg] | rw [hfg'] | rw [hfn] | rw [show figI 0 = false from rfl]))
  refine bodyPost_ret (v := .agg #[.int .i64 4, .string (s.extract a (a + 1)), .int .i64 0, .bool false, .int .i64 0, .int .i64 ((a : Int) + 1), .int .i64 0]) (by simp [results, Tryz.results19, go_sem]) rfl ⟨(Below.refl w.heap.size w).alloc (Nat.le_refl _) _, ?_⟩
  rw [hc, oneL_markc (by decide) (by decide) (by decide) (by decide) (by decide), markL_one 61 _ (HM.out) (by decide), ext_one ha, hc]
  show _ = Ending.returned (.agg #[.int .i64 4, .string (bs [61]), .int .i64 0, .bool false, .int .i64 0, .int .i64 ((s.size - (s.data.toList.drop (a + 1)).length : Nat) : Int), .int .i64 0])
  rw [drop_len (show a + 1 ≤ s.size by omega)]
  rfl
end Go.Proofs.YtdfjhhhbkgelaaaGreatDoor.V
