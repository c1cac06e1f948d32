/- The document's one: a part of its cases. (printed by gen_rone.py) -/
import Derived.Test.YtdfjhhhbkgelaaaGreatDoorR5h
namespace Go.Proofs.YtdfjhhhbkgelaaaGreatDoor.V
set_option linter.unusedVariables false
set_option linter.unusedSimpArgs false
open Go.RowKit

set_option maxRecDepth 100000 in
set_option maxHeartbeats 16000000 in
theorem rone_fig_y (s : ByteArray) (a : Nat) (w : World) (ha : a < s.size) (hs : s.size ≤ 65536) (hn : a + 1 < s.size) (hsm : sml ((s[a]'ha).toNat : Int) = false) (hbg : bgI ((s[a]'ha).toNat : Int) = false) (hfg : figI ((s[a]'ha).toNat : Int) = true) :
    Calls Tryz.prog 19 #[.string s, .int .i64 (a : Int)] w fun e w' => Below w.heap.size w w' ∧ e = .returned (gotV s.size (oneL (s[a]'ha) (s.data.toList.drop (a + 1)))) := by
  have HG := Lib.hid (IsGot.new (v0 := .int .i64 0) (v1 := .string ⟨#[]⟩) (v2 := .int .i64 0) (v3 := .bool false) (v4 := .int .i64 0) (v5 := .int .i64 0) (v6 := .int .i64 0) w)
  have HB := Lib.hid ((Below.refl w.heap.size w).alloc (Nat.le_refl _) (.cells #[.int .i64 0, .string ⟨#[]⟩, .int .i64 0, .bool false, .int .i64 0, .int .i64 0, .int .i64 0] 45))
  have hnd : decide ((a : Int) + 1 < (s.size : Int)) = true := decide_eq_true (by omega)
  obtain ⟨v0, v1, v2, v3, v4, v5, v6, hv⟩ := gotV_form s.size (numL (s[a]'ha) (s.data.toList.drop (a + 1)))
  have HV := Lib.hid hv
  have HC := Lib.hid (fun (W : World) => (show Calls Tryz.prog 44 #[.string s, .int .i64 (a : Int)] W (fun e w' => Below W.heap.size W w' ∧ e = .returned (.agg #[.int .i64 v0, .string v1, .int .i64 v2, .bool v3, .int .i64 v4, .int .i64 v5, .int .i64 v6])) from by rw [← HV.out]; exact rnum_high s a W ha hs hfg))
  clear hv
  go_enter Tryz.func19, Tryz.ntmps19
  have k0 := HG.out.c0; have k1 := HG.out.c1; have k2 := HG.out.c2; have k3 := HG.out.c3; have k4 := HG.out.c4; have k5 := HG.out.c5; have k6 := HG.out.c6
  have l0 := HG.out.fr 0; have l1 := HG.out.fr 1; have l2 := HG.out.fr 2; have l3 := HG.out.fr 3; have l4 := HG.out.fr 4; have l5 := HG.out.fr 5; have l6 := HG.out.fr 6
  go_wp2_with (first
    | (go_at_call 40; with_reducible refine (rsmall5_calls _ _).mono ?_; rintro e w' ⟨rfl, rfl⟩; first | rw [hsm] | rw [hsm'])
    | (go_at_call 41; with_reducible refine (rbig5_calls _ _).mono ?_; rintro e w' ⟨rfl, rfl⟩; first | rw [hbg] | rw [hbg'])
    | (go_at_call 43; with_reducible refine (rfig5_calls _ _).mono ?_; rintro e w' ⟨rfl, rfl⟩; first | rw [hfg] | rw [hfg'] | rw [hfn] | rw [show figI 0 = false from rfl])
    | (go_at_call 44; ((with_reducible refine (HC.out _).mono ?_); rintro e w2 ⟨hb2, rfl⟩; have hG2 := HG.out.below hb2; have g0 := hG2.c0; have g1 := hG2.c1; have g2 := hG2.c2; have g3 := hG2.c3; have g4 := hG2.c4; have g5 := hG2.c5; have g6 := hG2.c6; have m0 := hG2.fr 0; have m1 := hG2.fr 1; have m2 := hG2.fr 2; have m3 := hG2.fr 3; have m4 := hG2.fr 4; have m5 := hG2.fr 5; have m6 := hG2.fr 6; have HG2 := Lib.hid hG2; have HB2 := Lib.hid (HB.out.trans (hb2.mono HB.out.size)); clear hb2 hG2)))
  have hset := HG2.out.set (.int .i64 v0) (.string v1) (.int .i64 v2) (.bool v3) (.int .i64 v4) (.int .i64 v5) (.int .i64 v6)
  have r0 := hset.c0
  have r1 := hset.c1
  have r2 := hset.c2
  have r3 := hset.c3
  have r4 := hset.c4
  have r5 := hset.c5
  have r6 := hset.c6
  refine bodyPost_ret (v := .agg #[.int .i64 v0, .string v1, .int .i64 v2, .bool v3, .int .i64 v4, .int .i64 v5, .int .i64 v6]) (by simp [results, Tryz.results19, go_sem, r0, r1, r2, r3, r4, r5, r6]) rfl ⟨below_gotSet HB2.out (Nat.le_refl _) _ _ _ _ _ _ _, ?_⟩
  rw [oneL_fig hsm hbg hfg, HV.out]
set_option maxRecDepth 100000 in
set_option maxHeartbeats 16000000 in
theorem rone_lowno_y (s : ByteArray) (a : Nat) (w : World) (ha : a < s.size) (hs : s.size ≤ 65536) (hn : a + 1 < s.size) (hc : (s[a]'ha) = 45) (hfn : figI ((s[a + 1]'hn).toNat : Int) = false) :
    Calls Tryz.prog 19 #[.string s, .int .i64 (a : Int)] w fun e w' => Below w.heap.size w w' ∧ e = .returned (gotV s.size (oneL (s[a]'ha) (s.data.toList.drop (a + 1)))) := by
  have HG := Lib.hid (IsGot.new (v0 := .int .i64 0) (v1 := .string ⟨#[]⟩) (v2 := .int .i64 0) (v3 := .bool false) (v4 := .int .i64 0) (v5 := .int .i64 0) (v6 := .int .i64 0) w)
  have HB := Lib.hid ((Below.refl w.heap.size w).alloc (Nat.le_refl _) (.cells #[.int .i64 0, .string ⟨#[]⟩, .int .i64 0, .bool false, .int .i64 0, .int .i64 0, .int .i64 0] 45))
  have hnd : decide ((a : Int) + 1 < (s.size : Int)) = true := decide_eq_true (by omega)
  have hsm : sml ((s[a]'ha).toNat : Int) = false := by rw [hc]; rfl
  have hbg : bgI ((s[a]'ha).toNat : Int) = false := by rw [hc]; rfl
  have hfg : figI ((s[a]'ha).toNat : Int) = false := by rw [hc]; rfl
  have hcv : ((s[a]'ha).toNat : Int) = 45 := by rw [hc]; rfl
  have hsm' : sml 45 = false := rfl
  have hbg' : bgI 45 = false := rfl
  have hfg' : figI 45 = false := rfl
  go_enter Tryz.func19, Tryz.ntmps19
  have k0 := HG.out.c0; have k1 := HG.out.c1; have k2 := HG.out.c2; have k3 := HG.out.c3; have k4 := HG.out.c4; have k5 := HG.out.c5; have k6 := HG.out.c6
  have l0 := HG.out.fr 0; have l1 := HG.out.fr 1; have l2 := HG.out.fr 2; have l3 := HG.out.fr 3; have l4 := HG.out.fr 4; have l5 := HG.out.fr 5; have l6 := HG.out.fr 6
  go_wp2_with (first
    | (go_at_call 40; with_reducible refine (rsmall5_calls _ _).mono ?_; rintro e w' ⟨rfl, rfl⟩; first | rw [hsm] | rw [hsm'])
    | (go_at_call 41; with_reducible refine (rbig5_calls _ _).mono ?_; rintro e w' ⟨rfl, rfl⟩; first | rw [hbg] | rw [hbg'])
    | (go_at_call 43; with_reducible refine (rfig5_calls _ _).mono ?_; rintro e w' ⟨rfl, rfl⟩; first | rw [hfg] | rw [hfg'] | rw [hfn] | rw [show figI 0 = false from rfl]))
  refine bodyPost_ret (v := .agg #[.int .i64 0, .string ⟨#[]⟩, .int .i64 0, .bool false, .int .i64 0, .int .i64 0, .int .i64 2]) (by simp [results, Tryz.results19, go_sem]) rfl ⟨(Below.refl w.heap.size w).alloc (Nat.le_refl _) _, ?_⟩
  rw [hc, drop_at hn, oneL_low_no hfn]
  rfl
set_option maxRecDepth 100000 in
set_option maxHeartbeats 16000000 in
theorem rone_40_y (s : ByteArray) (a : Nat) (w : World) (ha : a < s.size) (hs : s.size ≤ 65536) (hn : a + 1 < s.size) (hc : (s[a]'ha) = 40) :
    Calls Tryz.prog 19 #[.string s, .int .i64 (a : Int)] w fun e w' => Below w.heap.size w w' ∧ e = .returned (gotV s.size (oneL (s[a]'ha) (s.data.toList.drop (a + 1)))) := by
  have HG := Lib.hid (IsGot.new (v0 := .int .i64 0) (v1 := .string ⟨#[]⟩) (v2 := .int .i64 0) (v3 := .bool false) (v4 := .int .i64 0) (v5 := .int .i64 0) (v6 := .int .i64 0) w)
  have HB := Lib.hid ((Below.refl w.heap.size w).alloc (Nat.le_refl _) (.cells #[.int .i64 0, .string ⟨#[]⟩, .int .i64 0, .bool false, .int .i64 0, .int .i64 0, .int .i64 0] 45))
  have hnd : decide ((a : Int) + 1 < (s.size : Int)) = true := decide_eq_true (by omega)
  have hsm : sml ((s[a]'ha).toNat : Int) = false := by rw [hc]; rfl
  have hbg : bgI ((s[a]'ha).toNat : Int) = false := by rw [hc]; rfl
  have hfg : figI ((s[a]'ha).toNat : Int) = false := by rw [hc]; rfl
  have hcv : ((s[a]'ha).toNat : Int) = 40 := by rw [hc]; rfl
  have hsm' : sml 40 = false := rfl
  have hbg' : bgI 40 = false := rfl
  have hfg' : figI 40 = false := rfl
  have HM := Lib.hid (show markTwo (40 :: s.data.toList.drop (a + 1)) = false from by simp [markTwo, List.isPrefixOf])
  go_enter Tryz.func19, Tryz.ntmps19
  have k0 := HG.out.c0; have k1 := HG.out.c1; have k2 := HG.out.c2; have k3 := HG.out.c3; have k4 := HG.out.c4; have k5 := HG.out.c5; have k6 := HG.out.c6
  have l0 := HG.out.fr 0; have l1 := HG.out.fr 1; have l2 := HG.out.fr 2; have l3 := HG.out.fr 3; have l4 := HG.out.fr 4; have l5 := HG.out.fr 5; have l6 := HG.out.fr 6
  go_wp2_with (first
    | (go_at_call 40; with_reducible refine (rsmall5_calls _ _).mono ?_; rintro e w' ⟨rfl, rfl⟩; first | rw [hsm] | rw [hsm'])
    | (go_at_call 41; with_reducible refine (rbig5_calls _ _).mono ?_; rintro e w' ⟨rfl, rfl⟩; first | rw [hbg] | rw [hbg'])
    | (go_at_call 43; with_reducible refine (rfig5_calls _ _).mono ?_; rintro e w' ⟨rfl, rfl⟩; first | rw [hfg] | rw [hfg'] | rw [hfn] | rw [show figI 0 = false from rfl]))
  refine bodyPost_ret (v := .agg #[.int .i64 4, .string (s.extract a (a + 1)), .int .i64 0, .bool false, .int .i64 0, .int .i64 ((a : Int) + 1), .int .i64 0]) (by simp [results, Tryz.results19, go_sem]) rfl ⟨(Below.refl w.heap.size w).alloc (Nat.le_refl _) _, ?_⟩
  rw [hc, oneL_markc (by decide) (by decide) (by decide) (by decide) (by decide), markL_one 40 _ (HM.out) (by decide), ext_one ha, hc]
  show _ = Ending.returned (.agg #[.int .i64 4, .string (bs [40]), .int .i64 0, .bool false, .int .i64 0, .int .i64 ((s.size - (s.data.toList.drop (a + 1)).length : Nat) : Int), .int .i64 0])
  rw [drop_len (show a + 1 ≤ s.size by omega)]
  rfl
set_option maxRecDepth 100000 in
set_option maxHeartbeats 16000000 in
theorem rone_58two_y (s : ByteArray) (a : Nat) (w : World) (ha : a < s.size) (hs : s.size ≤ 65536) (hn : a + 1 < s.size) (hc : (s[a]'ha) = 58) (hnx : s[a + 1]'hn = 45) :
    Calls Tryz.prog 19 #[.string s, .int .i64 (a : Int)] w fun e w' => Below w.heap.size w w' ∧ e = .returned (gotV s.size (oneL (s[a]'ha) (s.data.toList.drop (a + 1)))) := by
  have HG := Lib.hid (IsGot.new (v0 := .int .i64 0) (v1 := .string ⟨#[]⟩) (v2 := .int .i64 0) (v3 := .bool false) (v4 := .int .i64 0) (v5 := .int .i64 0) (v6 := .int .i64 0) w)
  have HB := Lib.hid ((Below.refl w.heap.size w).alloc (Nat.le_refl _) (.cells #[.int .i64 0, .string ⟨#[]⟩, .int .i64 0, .bool false, .int .i64 0, .int .i64 0, .int .i64 0] 45))
  have hnd : decide ((a : Int) + 1 < (s.size : Int)) = true := decide_eq_true (by omega)
  have hsm : sml ((s[a]'ha).toNat : Int) = false := by rw [hc]; rfl
  have hbg : bgI ((s[a]'ha).toNat : Int) = false := by rw [hc]; rfl
  have hfg : figI ((s[a]'ha).toNat : Int) = false := by rw [hc]; rfl
  have hcv : ((s[a]'ha).toNat : Int) = 58 := by rw [hc]; rfl
  have hsm' : sml 58 = false := rfl
  have hbg' : bgI 58 = false := rfl
  have hfg' : figI 58 = false := rfl
  have hnv : ((s[a + 1]'hn).toNat : Int) = 45 := by rw [hnx]; rfl
  have hfn : figI 45 = false := rfl
  go_enter Tryz.func19, Tryz.ntmps19
  have k0 := HG.out.c0; have k1 := HG.out.c1; have k2 := HG.out.c2; have k3 := HG.out.c3; have k4 := HG.out.c4; have k5 := HG.out.c5; have k6 := HG.out.c6
  have l0 := HG.out.fr 0; have l1 := HG.out.fr 1; have l2 := HG.out.fr 2; have l3 := HG.out.fr 3; have l4 := HG.out.fr 4; have l5 := HG.out.fr 5; have l6 := HG.out.fr 6
  go_wp2_with (first
    | (go_at_call 40; with_reducible refine (rsmall5_calls _ _).mono ?_; rintro e w' ⟨rfl, rfl⟩; first | rw [hsm] | rw [hsm'])
    | (go_at_call 41; with_reducible refine (rbig5_calls _ _).mono ?_; rintro e w' ⟨rfl, rfl⟩; first | rw [hbg] | rw [hbg'])
    | (go_at_call 43; with_reducible refine (rfig5_calls _ _).mono ?_; rintro e w' ⟨rfl, rfl⟩; first | rw [hfg] | rw [hfg'] | rw [hfn] | rw [show figI 0 = false from rfl]))
  refine bodyPost_ret (v := .agg #[.int .i64 4, .string (s.extract a (a + 2)), .int .i64 0, .bool false, .int .i64 0, .int .i64 ((a : Int) + 2), .int .i64 0]) (by simp [results, Tryz.results19, go_sem]) rfl ⟨(Below.refl w.heap.size w).alloc (Nat.le_refl _) _, ?_⟩
  rw [hc, drop_at hn, hnx, oneL_markc (by decide) (by decide) (by decide) (by decide) (by decide), markL_two 58 45 _ (by simp [markTwo, List.isPrefixOf]), ext_two hn, hc, hnx]
  show _ = Ending.returned (.agg #[.int .i64 4, .string (bs [58, 45]), .int .i64 0, .bool false, .int .i64 0, .int .i64 ((s.size - (s.data.toList.drop (a + 1 + 1)).length : Nat) : Int), .int .i64 0])
  rw [drop_len (show a + 1 + 1 ≤ s.size by omega)]
  rfl
set_option maxRecDepth 100000 in
set_option maxHeartbeats 16000000 in
theorem rone_33two_y (s : ByteArray) (a : Nat) (w : World) (ha : a < s.size) (hs : s.size ≤ 65536) (hn : a + 1 < s.size) (hc : (s[a]'ha) = 33) (hnx : s[a + 1]'hn = 61) :
    Calls Tryz.prog 19 #[.string s, .int .i64 (a : Int)] w fun e w' => Below w.heap.size w w' ∧ e = .returned (gotV s.size (oneL (s[a]'ha) (s.data.toList.drop (a + 1)))) := by
  have HG := Lib.hid (IsGot.new (v0 := .int .i64 0) (v1 := .string ⟨#[]⟩) (v2 := .int .i64 0) (v3 := .bool false) (v4 := .int .i64 0) (v5 := .int .i64 0) (v6 := .int .i64 0) w)
  have HB := Lib.hid ((Below.refl w.heap.size w).alloc (Nat.le_refl _) (.cells #[.int .i64 0, .string ⟨#[]⟩, .int .i64 0, .bool false, .int .i64 0, .int .i64 0, .int .i64 0] 45))
  have hnd : decide ((a : Int) + 1 < (s.size : Int)) = true := decide_eq_true (by omega)
  have hsm : sml ((s[a]'ha).toNat : Int) = false := by rw [hc]; rfl
  have hbg : bgI ((s[a]'ha).toNat : Int) = false := by rw [hc]; rfl
  have hfg : figI ((s[a]'ha).toNat : Int) = false := by rw [hc]; rfl
  have hcv : ((s[a]'ha).toNat : Int) = 33 := by rw [hc]; rfl
  have hsm' : sml 33 = false := rfl
  have hbg' : bgI 33 = false := rfl
  have hfg' : figI 33 = false := rfl
  have hnv : ((s[a + 1]'hn).toNat : Int) = 61 := by rw [hnx]; rfl
  have hfn : figI 61 = false := rfl
  go_enter Tryz.func19, Tryz.ntmps19
  have k0 := HG.out.c0; have k1 := HG.out.c1; have k2 := HG.out.c2; have k3 := HG.out.c3; have k4 := HG.out.c4; have k5 := HG.out.c5; have k6 := HG.out.c6
  have l0 := HG.out.fr 0; have l1 := HG.out.fr 1; have l2 := HG.out.fr 2; have l3 := HG.out.fr 3; have l4 := HG.out.fr 4; have l5 := HG.out.fr 5; have l6 := HG.out.fr 6
  go_wp2_with (first
    | (go_at_call 40; with_reducible refine (rsmall5_calls _ _).mono ?_; rintro e w' ⟨rfl, rfl⟩; first | rw [hsm] | rw [hsm'])
    | (go_at_call 41; with_reducible refine (rbig5_calls _ _).mono ?_; rintro e w' ⟨rfl, rfl⟩; first | rw [hbg] | rw [hbg'])
    | (go_at_call 43; with_reducible refine (rfig5_calls _ _).mono ?_; rintro e w' ⟨rfl, rfl⟩; first | rw [hfg] | rw [hfg'] | rw [hfn] | rw [show figI 0 = false from rfl]))
  refine bodyPost_ret (v := .agg #[.int .i64 4, .string (s.extract a (a + 2)), .int .i64 0, .bool false, .int .i64 0, .int .i64 ((a : Int) + 2), .int .i64 0]) (by simp [results, Tryz.results19, go_sem]) rfl ⟨(Below.refl w.heap.size w).alloc (Nat.le_refl _) _, ?_⟩
  rw [hc, drop_at hn, hnx, oneL_markc (by decide) (by decide) (by decide) (by decide) (by decide), markL_two 33 61 _ (by simp [markTwo, List.isPrefixOf]), ext_two hn, hc, hnx]
  show _ = Ending.returned (.agg #[.int .i64 4, .string (bs [33, 61]), .int .i64 0, .bool false, .int .i64 0, .int .i64 ((s.size - (s.data.toList.drop (a + 1 + 1)).length : Nat) : Int), .int .i64 0])
  rw [drop_len (show a + 1 + 1 ≤ s.size by omega)]
  rfl
set_option maxRecDepth 100000 in
set_option maxHeartbeats 16000000 in
theorem rone_40_n (s : ByteArray) (a : Nat) (w : World) (ha : a < s.size) (hs : s.size ≤ 65536) (hn : ¬ a + 1 < s.size) (hc : (s[a]'ha) = 40) :
    Calls Tryz.prog 19 #[.string s, .int .i64 (a : Int)] w fun e w' => Below w.heap.size w w' ∧ e = .returned (gotV s.size (oneL (s[a]'ha) (s.data.toList.drop (a + 1)))) := by
  have HG := Lib.hid (IsGot.new (v0 := .int .i64 0) (v1 := .string ⟨#[]⟩) (v2 := .int .i64 0) (v3 := .bool false) (v4 := .int .i64 0) (v5 := .int .i64 0) (v6 := .int .i64 0) w)
  have HB := Lib.hid ((Below.refl w.heap.size w).alloc (Nat.le_refl _) (.cells #[.int .i64 0, .string ⟨#[]⟩, .int .i64 0, .bool false, .int .i64 0, .int .i64 0, .int .i64 0] 45))
  have hnd : decide ((a : Int) + 1 < (s.size : Int)) = false := decide_eq_false (by omega)
  have hsm : sml ((s[a]'ha).toNat : Int) = false := by rw [hc]; rfl
  have hbg : bgI ((s[a]'ha).toNat : Int) = false := by rw [hc]; rfl
  have hfg : figI ((s[a]'ha).toNat : Int) = false := by rw [hc]; rfl
  have hcv : ((s[a]'ha).toNat : Int) = 40 := by rw [hc]; rfl
  have hsm' : sml 40 = false := rfl
  have hbg' : bgI 40 = false := rfl
  have hfg' : figI 40 = false := rfl
  have HM := Lib.hid (show markTwo (40 :: s.data.toList.drop (a + 1)) = false from by simp [markTwo, List.isPrefixOf])
  go_enter Tryz.func19, Tryz.ntmps19
  have k0 := HG.out.c0; have k1 := HG.out.c1; have k2 := HG.out.c2; have k3 := HG.out.c3; have k4 := HG.out.c4; have k5 := HG.out.c5; have k6 := HG.out.c6
  have l0 := HG.out.fr 0; have l1 := HG.out.fr 1; have l2 := HG.out.fr 2; have l3 := HG.out.fr 3; have l4 := HG.out.fr 4; have l5 := HG.out.fr 5; have l6 := HG.out.fr 6
  go_wp2_with (first
    | (go_at_call 40; with_reducible refine (rsmall5_calls _ _).mono ?_; rintro e w' ⟨rfl, rfl⟩; first | rw [hsm] | rw [hsm'])
    | (go_at_call 41; with_reducible refine (rbig5_calls _ _).mono ?_; rintro e w' ⟨rfl, rfl⟩; first | rw [hbg] | rw [hbg'])
    | (go_at_call 43; with_reducible refine (rfig5_calls _ _).mono ?_; rintro e w' ⟨rfl, rfl⟩; first | rw [hfg] | rw [hfg'] | rw [hfn] | rw [show figI 0 = false from rfl]))
  refine bodyPost_ret (v := .agg #[.int .i64 4, .string (s.extract a (a + 1)), .int .i64 0, .bool false, .int .i64 0, .int .i64 ((a : Int) + 1), .int .i64 0]) (by simp [results, Tryz.results19, go_sem]) rfl ⟨(Below.refl w.heap.size w).alloc (Nat.le_refl _) _, ?_⟩
  rw [hc, oneL_markc (by decide) (by decide) (by decide) (by decide) (by decide), markL_one 40 _ (HM.out) (by decide), ext_one ha, hc]
  show _ = Ending.returned (.agg #[.int .i64 4, .string (bs [40]), .int .i64 0, .bool false, .int .i64 0, .int .i64 ((s.size - (s.data.toList.drop (a + 1)).length : Nat) : Int), .int .i64 0])
  rw [drop_len (show a + 1 ≤ s.size by omega)]
  rfl
set_option maxRecDepth 100000 in
set_option maxHeartbeats 16000000 in
theorem rone_58one_n (s : ByteArray) (a : Nat) (w : World) (ha : a < s.size) (hs : s.size ≤ 65536) (hn : ¬ a + 1 < s.size) (hc : (s[a]'ha) = 58) :
    Calls Tryz.prog 19 #[.string s, .int .i64 (a : Int)] w fun e w' => Below w.heap.size w w' ∧ e = .returned (gotV s.size (oneL (s[a]'ha) (s.data.toList.drop (a + 1)))) := by
  have HG := Lib.hid (IsGot.new (v0 := .int .i64 0) (v1 := .string ⟨#[]⟩) (v2 := .int .i64 0) (v3 := .bool false) (v4 := .int .i64 0) (v5 := .int .i64 0) (v6 := .int .i64 0) w)
  have HB := Lib.hid ((Below.refl w.heap.size w).alloc (Nat.le_refl _) (.cells #[.int .i64 0, .string ⟨#[]⟩, .int .i64 0, .bool false, .int .i64 0, .int .i64 0, .int .i64 0] 45))
  have hnd : decide ((a : Int) + 1 < (s.size : Int)) = false := decide_eq_false (by omega)
  have hsm : sml ((s[a]'ha).toNat : Int) = false := by rw [hc]; rfl
  have hbg : bgI ((s[a]'ha).toNat : Int) = false := by rw [hc]; rfl
  have hfg : figI ((s[a]'ha).toNat : Int) = false := by rw [hc]; rfl
  have hcv : ((s[a]'ha).toNat : Int) = 58 := by rw [hc]; rfl
  have hsm' : sml 58 = false := rfl
  have hbg' : bgI 58 = false := rfl
  have hfg' : figI 58 = false := rfl
  have HM := Lib.hid (show markTwo (58 :: s.data.toList.drop (a + 1)) = false from by rw [drop_end (by omega)]; simp [markTwo, List.isPrefixOf])
  go_enter Tryz.func19, Tryz.ntmps19
  have k0 := HG.out.c0; have k1 := HG.out.c1; have k2 := HG.out.c2; have k3 := HG.out.c3; have k4 := HG.out.c4; have k5 := HG.out.c5; have k6 := HG.out.c6
  have l0 := HG.out.fr 0; have l1 := HG.out.fr 1; have l2 := HG.out.fr 2; have l3 := HG.out.fr 3; have l4 := HG.out.fr 4; have l5 := HG.out.fr 5; have l6 := HG.out.fr 6
  go_wp2_with (first
    | (go_at_call 40; with_reducible refine (rsmall5_calls _ _).mono ?_; rintro e w' ⟨rfl, rfl⟩; first | rw [hsm] | rw [hsm'])
    | (go_at_call 41; with_reducible refine (rbig5_calls _ _).mono ?_; rintro e w' ⟨rfl, rfl⟩; first | rw [hbg] | rw [hbg'])
    | (go_at_call 43; with_reducible refine (rfig5_calls _ _).mono ?_; rintro e w' ⟨rfl, rfl⟩; first | rw [hfg] | rw [hfg'] | rw [hfn] | rw [show figI 0 = false from rfl]))
  refine bodyPost_ret (v := .agg #[.int .i64 0, .string ⟨#[]⟩, .int .i64 0, .bool false, .int .i64 0, .int .i64 0, .int .i64 2]) (by simp [results, Tryz.results19, go_sem]) rfl ⟨(Below.refl w.heap.size w).alloc (Nat.le_refl _) _, ?_⟩
  rw [hc, oneL_markc (by decide) (by decide) (by decide) (by decide) (by decide), markL_none 58 _ HM.out (by decide)]
  rfl
end Go.Proofs.YtdfjhhhbkgelaaaGreatDoor.V
