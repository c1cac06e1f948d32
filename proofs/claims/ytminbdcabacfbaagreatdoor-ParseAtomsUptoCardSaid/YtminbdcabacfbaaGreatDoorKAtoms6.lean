/- The document's number. The document's one: the token at a place. (printed by gen_rone.py) The document's one: a part of its cases. (printed by gen_rone.py) The document's one: a part of its cases. (printed by gen_rone.py) -/
import Derived.IntWalk
import Derived.Test.YtminbdcabacfbaaGreatDoorKAtoms5
namespace Go.Proofs.YtminbdcabacfbaaGreatDoor.V
set_option linter.unusedVariables false
set_option linter.unusedSimpArgs false
open Go.RowKit

/-- The figures between two places. -/
def figL (s : ByteArray) (st T : Nat) : List UInt8 := (s.data.toList.drop st).take (T - st)
theorem figL_len {s : ByteArray} {st T : Nat} (h : T ≤ s.size) : (figL s st T).length = T - st := by
  unfold figL
  rw [List.length_take, List.length_drop]
  have : s.data.toList.length = s.size := by simp
  omega
theorem figL_at {s : ByteArray} {st T j : Nat} (h : T ≤ s.size) (hj : st + j < T) : (figL s st T)[j]? = some (s[st + j]'(by omega)) := by
  unfold figL
  rw [List.getElem?_take_of_lt (by omega), List.getElem?_drop]
  simp [ByteArray.getElem_eq_getElem_data, (by omega : st + j < s.size)]
theorem figs_low (s : ByteArray) (a : Nat) : figL s (a + 1) (runB figI s (a + 1)) = (s.data.toList.drop (a + 1)).takeWhile (ofB figI) := by
  unfold figL runB
  rw [show a + 1 + ((s.data.toList.drop (a + 1)).takeWhile (ofB figI)).length - (a + 1) = ((s.data.toList.drop (a + 1)).takeWhile (ofB figI)).length by omega]
  generalize s.data.toList.drop (a + 1) = l
  conv => lhs; rw [← List.takeWhile_append_dropWhile (p := ofB figI) (l := l)]
  rw [List.take_left']
  simp [List.takeWhile_append_dropWhile]
theorem figs_high {s : ByteArray} {a : Nat} (h : a < s.size) : figL s a (runB figI s (a + 1)) = s[a] :: (s.data.toList.drop (a + 1)).takeWhile (ofB figI) := by
  have hl := (runB_le (P := figI) (s := s) (a := a + 1) h).1
  rw [← figs_low]
  unfold figL
  rw [drop_at h, show runB figI s (a + 1) - a = (runB figI s (a + 1) - (a + 1)) + 1 by omega, List.take_succ_cons]
theorem allFig_take (l : List UInt8) : allFig (l.takeWhile (ofB figI)) := fun c hc => by
  have := List.all_takeWhile (p := ofB figI) (l := l)
  exact List.all_eq_true.1 this c hc
theorem numL_low {s : ByteArray} {a : Nat} (hne : (s.data.toList.drop (a + 1)).takeWhile (ofB figI) ≠ []) : allFig (figL s (a + 1) (runB figI s (a + 1))) ∧
    numL 45 (s.data.toList.drop (a + 1)) = if 9223372036854775808 < valF 0 (figL s (a + 1) (runB figI s (a + 1))) then .bad 3 else .tok ⟨3, [], -(valF 0 (figL s (a + 1) (runB figI s (a + 1))) : Int), false⟩ (s.data.toList.drop (runB figI s (a + 1))) := by
  rw [figs_low, runB_drop]
  refine ⟨allFig_take _, ?_⟩
  unfold numL
  rw [parseI_low _ (allFig_take _) hne]
  by_cases h : 9223372036854775808 < valF 0 ((s.data.toList.drop (a + 1)).takeWhile (ofB figI))
  · rw [if_pos h, if_pos h]
  · rw [if_neg h, if_neg h]
theorem numL_high {s : ByteArray} {a : Nat} (h : a < s.size) (hf : ofB figI s[a] = true) : allFig (figL s a (runB figI s (a + 1))) ∧
    numL s[a] (s.data.toList.drop (a + 1)) = if 9223372036854775808 ≤ valF 0 (figL s a (runB figI s (a + 1))) then .bad 3 else .tok ⟨3, [], (valF 0 (figL s a (runB figI s (a + 1))) : Int), false⟩ (s.data.toList.drop (runB figI s (a + 1))) := by
  rw [figs_high h, runB_drop]
  have hall : allFig (s[a] :: (s.data.toList.drop (a + 1)).takeWhile (ofB figI)) := by
    intro x hx
    rcases List.mem_cons.1 hx with rfl | hx
    · exact hf
    · exact allFig_take _ x hx
  refine ⟨hall, ?_⟩
  unfold numL
  rw [parseI_high _ _ hall]
  by_cases h : 9223372036854775808 ≤ valF 0 (s[a] :: (s.data.toList.drop (a + 1)).takeWhile (ofB figI))
  · rw [if_pos h, if_pos h]
  · rw [if_neg h, if_neg h]
theorem valF_step {D : List UInt8} {j : Nat} {c : UInt8} (h : D[j]? = some c) : valF 0 (D.take (j + 1)) = valF 0 (D.take j) * 10 + (c.toNat - 48) := by
  rw [List.take_add_one, h, valF_app]
  simp only [Option.toList_some, valF_cons, valF_nil]
theorem valF_mono (D : List UInt8) (j : Nat) : valF 0 (D.take j) ≤ valF 0 D := by
  conv => rhs; rw [← List.take_append_drop j D]
  rw [valF_app]
  exact valF_ge _ _

set_option maxRecDepth 100000 in
set_option maxHeartbeats 16000000 in
theorem rnum_low (s : ByteArray) (a : Nat) (w : World) (ha : a < s.size) (hs : s.size ≤ 65536) (hc : s[a]'ha = 45) (hne : (s.data.toList.drop (a + 1)).takeWhile (ofB figI) ≠ []) :
    Calls Tryz.prog 101 #[.string s, .int .i64 (a : Int)] w fun e w' => Below w.heap.size w w' ∧ e = .returned (gotV s.size (numL 45 (s.data.toList.drop (a + 1)))) := by
  have hG := IsGot.new (v0 := .int .i64 0) (v1 := .string ⟨#[]⟩) (v2 := .int .i64 0) (v3 := .bool false) (v4 := .int .i64 0) (v5 := .int .i64 0) (v6 := .int .i64 0) w
  have HG := Lib.hid hG
  have HB := Lib.hid ((Below.refl w.heap.size w).alloc (Nat.le_refl _) (.cells #[.int .i64 0, .string ⟨#[]⟩, .int .i64 0, .bool false, .int .i64 0, .int .i64 0, .int .i64 0] 115))
  have hnum := numL_low hne
  obtain ⟨T, hT⟩ : ∃ T, runB figI s (a + 1) = T := ⟨_, rfl⟩
  have hTl := runB_le (P := figI) (s := s) (a := a + 1) ha
  rw [hT] at hTl hnum
  have HTL := Lib.hid hTl
  have HT := Lib.hid hT
  have HAF := Lib.hid hnum.1
  have HNL := Lib.hid (show numL 45 (s.data.toList.drop (a + 1)) = if 9223372036854775808 < valF 0 (figL s (a + 1) T) then .bad 3 else .tok ⟨3, [], -(valF 0 (figL s (a + 1) T) : Int), false⟩ (s.data.toList.drop T) from hnum.2)
  have hl : ((s[a].toNat : Int) == 45) = true := by rw [hc]; rfl
  clear hG hT hTl hnum
  have hw0g : ∃ w0, w.alloc (.cells #[.int .i64 0, .string ⟨#[]⟩, .int .i64 0, .bool false, .int .i64 0, .int .i64 0, .int .i64 0] 115) = w0 := ⟨_, rfl⟩
  go_enter Tryz.func101, Tryz.ntmps101
  go_wp2_with fail
  obtain ⟨w0, hw0⟩ := hw0g
  rw [hw0] at HG HB ⊢
  have k0 := HG.out.c0; have k1 := HG.out.c1; have k2 := HG.out.c2; have k3 := HG.out.c3; have k4 := HG.out.c4; have k5 := HG.out.c5; have k6 := HG.out.c6
  have l0 := HG.out.fr 0; have l1 := HG.out.fr 1; have l2 := HG.out.fr 2; have l3 := HG.out.fr 3; have l4 := HG.out.fr 4; have l5 := HG.out.fr 5; have l6 := HG.out.fr 6
  go_loopw [5] (fun i wr => ∃ k : Nat, a + 1 ≤ k ∧ k ≤ s.size ∧ i = .int .i64 (k : Int) ∧ runB figI s k = T ∧ w0 = wr) (fun i _ => s.size + 1 - (intOf i).toNat)
  case atStart => exact ⟨a + 1, Nat.le_refl _, ha, by simp, HT.out, rfl⟩
  case round =>
    obtain ⟨k, hak, hk, rfl, hr, rfl⟩ := hrel
    cases hm : moreB figI s k with
    | true =>
      obtain ⟨hkl, hr2⟩ := runB_more hm
      have hd : decide ((k : Int) < (s.size : Int)) = true := decide_eq_true (by omega)
      have hfg : figI ((s[k]'hkl).toNat : Int) = true := ofB_at hm hkl
      have HR := Lib.hid (hr2.trans hr)
      clear hr hr2 hm
      go_wp2_with (go_at_call 100; with_reducible refine (rfig5_calls _ _).mono ?_; rintro e w' ⟨rfl, rfl⟩; rw [hfg])
      go_roundw
      case rel => exact ⟨k + 1, by omega, hkl, by simp, HR.out, trivial⟩
      case measure => simp [intOf]; omega
    | false =>
      have hkT : k = T := by rw [← hr, runB_stop hm]
      subst hkT
      have hloop : (decide ((k : Int) < (s.size : Int)) = true ∧ ∃ h : k < s.size, figI ((s[k]'h).toNat : Int) = false) ∨ (decide ((k : Int) < (s.size : Int)) = false ∧ ¬ k < s.size) := by
        by_cases h : k < s.size
        · exact .inl ⟨decide_eq_true (by omega), h, ofB_no hm h⟩
        · exact .inr ⟨decide_eq_false (by omega), h⟩
      clear hr hm
      rcases hloop with ⟨hd, hkl, hfg⟩ | ⟨hd, hnl⟩
      · go_wp2_with (go_at_call 100; with_reducible refine (rfig5_calls _ _).mono ?_; rintro e w' ⟨rfl, rfl⟩; rw [hfg])
        go_loopw [8, 7] (fun i n wr => (i = .int .i64 (a : Int) ∧ n = .int .i64 0 ∧ w0 = wr) ∨ ∃ j : Nat, a + 1 + j ≤ k ∧ i = .int .i64 ((a + 1 + j : Nat) : Int) ∧ n = .int .i64 (-(valF 0 ((figL s (a + 1) k).take j) : Int)) ∧ valF 0 ((figL s (a + 1) k).take j) ≤ 9223372036854775808 ∧ w0 = wr) (fun i _ _ => k + 1 - (intOf i).toNat)
        case atStart => exact .inl ⟨rfl, rfl, rfl⟩
        case round =>
          rcases hrel with ⟨rfl, rfl, rfl⟩ | ⟨j, hjT, rfl, rfl, hval, rfl⟩
          · have hak2 := HTL.out.1
            have hdd : decide ((a : Int) < (k : Int)) = true := decide_eq_true (by omega)
            have haa : ((a : Int) == (a : Int)) = true := by simp
            go_wp2_with fail
            go_roundw
            case rel => exact .inr ⟨0, by omega, by simp, by simp [valF], by simp [valF], trivial⟩
            case measure => (simp [intOf] <;> omega)
          · have haj : (((a + 1 + j : Nat) : Int) == (a : Int)) = false := by simp; omega
            by_cases hjk : a + 1 + j < k
            · have hkk : k ≤ s.size := HTL.out.2
              have hij : (a + 1) + j < s.size := by omega
              have hDj : (figL s (a + 1) k)[j]? = some (s[(a + 1) + j]'hij) := figL_at hkk hjk
              have hdf := HAF.out _ (List.mem_of_getElem? hDj)
              have hdf2 := fig_of hdf
              have hvs := valF_step hDj
              have hvm := valF_mono (figL s (a + 1) k) (j + 1)
              have HVS := Lib.hid hvs
              have HVM := Lib.hid hvm
              have hdd : decide ((((a + 1) + j : Nat) : Int) < (k : Int)) = true := decide_eq_true (by omega)
              obtain ⟨d, hdv⟩ : ∃ d : Nat, (s[(a + 1) + j]'hij).toNat = 48 + d := ⟨(s[(a + 1) + j]'hij).toNat - 48, by omega⟩
              have hd9 : d ≤ 9 := by omega
              have hs48 : (48 : Int) + (d : Int) - 48 = (d : Int) := by omega
              obtain ⟨v, hv⟩ : ∃ v, valF 0 ((figL s (a + 1) k).take j) = v := ⟨_, rfl⟩
              rw [hv] at hval hvs
              have HV := Lib.hid hv
              have hvs2 : valF 0 ((figL s (a + 1) k).take (j + 1)) = v * 10 + d := by rw [hvs, hdv]; omega
              have HVS2 := Lib.hid hvs2
              rw [hvs2] at hvm
              rw [hv]
              clear hvs hvs2 hDj hdf hdf2 hv
              by_cases hg : 922337203685477580 < v ∨ (v = 922337203685477580 ∧ 8 < d)
              · have hbig : 9223372036854775808 < valF 0 (figL s (a + 1) k) := by omega
                have HBIG := Lib.hid hbig
                clear hbig hvm
                by_cases hg1 : 922337203685477580 < v
                · have t1 : decide (-(v : Int) < -922337203685477580) = true := decide_eq_true (by omega)
                  clear hg
                  go_wp2_with fail
                  have hset := HG.out.set (.int .i64 0) (.string ⟨#[]⟩) (.int .i64 0) (.bool false) (.int .i64 0) (.int .i64 0) (.int .i64 3)
                  have r0 := hset.c0
                  have r1 := hset.c1
                  have r2 := hset.c2
                  have r3 := hset.c3
                  have r4 := hset.c4
                  have r5 := hset.c5
                  have r6 := hset.c6
                  refine bodyPost_ret (v := .agg #[.int .i64 0, .string ⟨#[]⟩, .int .i64 0, .bool false, .int .i64 0, .int .i64 0, .int .i64 3]) (by simp [results, Tryz.results101, go_sem, r0, r1, r2, r3, r4, r5, r6]) rfl ⟨below_gotSet HB.out (Nat.le_refl _) _ _ _ _ _ _ _, ?_⟩
                  rw [HNL.out, if_pos (by have := HBIG.out; omega)]
                  rfl
                · have hve : v = 922337203685477580 := by omega
                  subst hve
                  have t3 : decide ((8 : Int) < (d : Int)) = true := decide_eq_true (by omega)
                  have t3' : decide (8 < d) = true := decide_eq_true (by omega)
                  clear hg hg1
                  skip
                  go_wp2_with fail
                  have hset := HG.out.set (.int .i64 0) (.string ⟨#[]⟩) (.int .i64 0) (.bool false) (.int .i64 0) (.int .i64 0) (.int .i64 3)
                  have r0 := hset.c0
                  have r1 := hset.c1
                  have r2 := hset.c2
                  have r3 := hset.c3
                  have r4 := hset.c4
                  have r5 := hset.c5
                  have r6 := hset.c6
                  refine bodyPost_ret (v := .agg #[.int .i64 0, .string ⟨#[]⟩, .int .i64 0, .bool false, .int .i64 0, .int .i64 0, .int .i64 3]) (by simp [results, Tryz.results101, go_sem, r0, r1, r2, r3, r4, r5, r6]) rfl ⟨below_gotSet HB.out (Nat.le_refl _) _ _ _ _ _ _ _, ?_⟩
                  rw [HNL.out, if_pos (by have := HBIG.out; omega)]
                  rfl
              · have hv' : v * 10 + d ≤ 9223372036854775808 := by omega
                have t1 : decide (-(v : Int) < -922337203685477580) = false := decide_eq_false (by omega)
                have hw1 : IntKind.i64.wrap (10 * -(v : Int)) = 10 * -(v : Int) := IntWalk.i64_in _ (by omega)
                have hw2 : IntKind.i64.wrap (10 * -(v : Int) - (d : Int)) = 10 * -(v : Int) - (d : Int) := IntWalk.i64_in _ (by omega)
                have hw3 : wrap64 (10 * -(v : Int)) = 10 * -(v : Int) := by unfold wrap64; omega
                have hw4 : wrap64 (10 * -(v : Int) - (d : Int)) = 10 * -(v : Int) - (d : Int) := by unfold wrap64; omega
                by_cases hve : v = 922337203685477580
                · subst hve
                  have t3 : decide ((8 : Int) < (d : Int)) = false := decide_eq_false (by omega)
                  have t3' : decide (8 < d) = false := decide_eq_false (by omega)
                  clear hg hvm
                  go_wp2_with fail
                  go_roundw
                  case rel => exact .inr ⟨j + 1, by omega, by simp; omega, by rw [HVS2.out]; simp; omega, by rw [HVS2.out]; omega, trivial⟩
                  case measure => (simp [intOf] <;> omega)
                · have t2 : (-(v : Int) == -922337203685477580) = false := by simp; omega
                  clear hg hvm
                  go_wp2_with fail
                  go_roundw
                  case rel => exact .inr ⟨j + 1, by omega, by simp; omega, by rw [HVS2.out]; simp; omega, by rw [HVS2.out]; omega, trivial⟩
                  case measure => (simp [intOf] <;> omega)
            · have hjk2 : a + 1 + j = k := by omega
              have hdd : decide (((a + 1 + j : Nat) : Int) < (k : Int)) = false := decide_eq_false (by omega)
              have hall : (figL s (a + 1) k).take j = figL s (a + 1) k := List.take_of_length_le (by rw [figL_len HTL.out.2]; omega)
              rw [hall] at hval ⊢
              have HV := Lib.hid hval
              obtain ⟨v, hv⟩ : ∃ v, valF 0 (figL s (a + 1) k) = v := ⟨_, rfl⟩
              rw [hv] at hval ⊢
              have HVV := Lib.hid hv
              clear hall hv hjT hjk
              go_wp2_with fail
              have hset := HG.out.set (.int .i64 3) (.string ⟨#[]⟩) (.int .i64 (-(v : Int))) (.bool false) (.int .i64 0) (.int .i64 (k : Int)) (.int .i64 0)
              have r0 := hset.c0
              have r1 := hset.c1
              have r2 := hset.c2
              have r3 := hset.c3
              have r4 := hset.c4
              have r5 := hset.c5
              have r6 := hset.c6
              refine bodyPost_ret (v := .agg #[.int .i64 3, .string ⟨#[]⟩, .int .i64 (-(v : Int)), .bool false, .int .i64 0, .int .i64 (k : Int), .int .i64 0]) (by simp [results, Tryz.results101, go_sem, r0, r1, r2, r3, r4, r5, r6]) rfl ⟨below_gotSet HB.out (Nat.le_refl _) _ _ _ _ _ _ _, ?_⟩
              rw [HNL.out, if_neg (by have := HV.out; omega), HVV.out]
              show _ = Ending.returned (.agg #[.int .i64 3, .string ⟨#[]⟩, .int .i64 (-(v : Int)), .bool false, .int .i64 0, .int .i64 ((s.size - (s.data.toList.drop k).length : Nat) : Int), .int .i64 0])
              rw [drop_len HTL.out.2]
      · go_wp2_with (go_at_call 100; fail)
        go_loopw [8, 7] (fun i n wr => (i = .int .i64 (a : Int) ∧ n = .int .i64 0 ∧ w0 = wr) ∨ ∃ j : Nat, a + 1 + j ≤ k ∧ i = .int .i64 ((a + 1 + j : Nat) : Int) ∧ n = .int .i64 (-(valF 0 ((figL s (a + 1) k).take j) : Int)) ∧ valF 0 ((figL s (a + 1) k).take j) ≤ 9223372036854775808 ∧ w0 = wr) (fun i _ _ => k + 1 - (intOf i).toNat)
        case atStart => exact .inl ⟨rfl, rfl, rfl⟩
        case round =>
          rcases hrel with ⟨rfl, rfl, rfl⟩ | ⟨j, hjT, rfl, rfl, hval, rfl⟩
          · have hak2 := HTL.out.1
            have hdd : decide ((a : Int) < (k : Int)) = true := decide_eq_true (by omega)
            have haa : ((a : Int) == (a : Int)) = true := by simp
            go_wp2_with fail
            go_roundw
            case rel => exact .inr ⟨0, by omega, by simp, by simp [valF], by simp [valF], trivial⟩
            case measure => (simp [intOf] <;> omega)
          · have haj : (((a + 1 + j : Nat) : Int) == (a : Int)) = false := by simp; omega
            by_cases hjk : a + 1 + j < k
            · have hkk : k ≤ s.size := HTL.out.2
              have hij : (a + 1) + j < s.size := by omega
              have hDj : (figL s (a + 1) k)[j]? = some (s[(a + 1) + j]'hij) := figL_at hkk hjk
              have hdf := HAF.out _ (List.mem_of_getElem? hDj)
              have hdf2 := fig_of hdf
              have hvs := valF_step hDj
              have hvm := valF_mono (figL s (a + 1) k) (j + 1)
              have HVS := Lib.hid hvs
              have HVM := Lib.hid hvm
              have hdd : decide ((((a + 1) + j : Nat) : Int) < (k : Int)) = true := decide_eq_true (by omega)
              obtain ⟨d, hdv⟩ : ∃ d : Nat, (s[(a + 1) + j]'hij).toNat = 48 + d := ⟨(s[(a + 1) + j]'hij).toNat - 48, by omega⟩
              have hd9 : d ≤ 9 := by omega
              have hs48 : (48 : Int) + (d : Int) - 48 = (d : Int) := by omega
              obtain ⟨v, hv⟩ : ∃ v, valF 0 ((figL s (a + 1) k).take j) = v := ⟨_, rfl⟩
              rw [hv] at hval hvs
              have HV := Lib.hid hv
              have hvs2 : valF 0 ((figL s (a + 1) k).take (j + 1)) = v * 10 + d := by rw [hvs, hdv]; omega
              have HVS2 := Lib.hid hvs2
              rw [hvs2] at hvm
              rw [hv]
              clear hvs hvs2 hDj hdf hdf2 hv
              by_cases hg : 922337203685477580 < v ∨ (v = 922337203685477580 ∧ 8 < d)
              · have hbig : 9223372036854775808 < valF 0 (figL s (a + 1) k) := by omega
                have HBIG := Lib.hid hbig
                clear hbig hvm
                by_cases hg1 : 922337203685477580 < v
                · have t1 : decide (-(v : Int) < -922337203685477580) = true := decide_eq_true (by omega)
                  clear hg
                  go_wp2_with fail
                  have hset := HG.out.set (.int .i64 0) (.string ⟨#[]⟩) (.int .i64 0) (.bool false) (.int .i64 0) (.int .i64 0) (.int .i64 3)
                  have r0 := hset.c0
                  have r1 := hset.c1
                  have r2 := hset.c2
                  have r3 := hset.c3
                  have r4 := hset.c4
                  have r5 := hset.c5
                  have r6 := hset.c6
                  refine bodyPost_ret (v := .agg #[.int .i64 0, .string ⟨#[]⟩, .int .i64 0, .bool false, .int .i64 0, .int .i64 0, .int .i64 3]) (by simp [results, Tryz.results101, go_sem, r0, r1, r2, r3, r4, r5, r6]) rfl ⟨below_gotSet HB.out (Nat.le_refl _) _ _ _ _ _ _ _, ?_⟩
                  rw [HNL.out, if_pos (by have := HBIG.out; omega)]
                  rfl
                · have hve : v = 922337203685477580 := by omega
                  subst hve
                  have t3 : decide ((8 : Int) < (d : Int)) = true := decide_eq_true (by omega)
                  have t3' : decide (8 < d) = true := decide_eq_true (by omega)
                  clear hg hg1
                  skip
                  go_wp2_with fail
                  have hset := HG.out.set (.int .i64 0) (.string ⟨#[]⟩) (.int .i64 0) (.bool false) (.int .i64 0) (.int .i64 0) (.int .i64 3)
                  have r0 := hset.c0
                  have r1 := hset.c1
                  have r2 := hset.c2
                  have r3 := hset.c3
                  have r4 := hset.c4
                  have r5 := hset.c5
                  have r6 := hset.c6
                  refine bodyPost_ret (v := .agg #[.int .i64 0, .string ⟨#[]⟩, .int .i64 0, .bool false, .int .i64 0, .int .i64 0, .int .i64 3]) (by simp [results, Tryz.results101, go_sem, r0, r1, r2, r3, r4, r5, r6]) rfl ⟨below_gotSet HB.out (Nat.le_refl _) _ _ _ _ _ _ _, ?_⟩
                  rw [HNL.out, if_pos (by have := HBIG.out; omega)]
                  rfl
              · have hv' : v * 10 + d ≤ 9223372036854775808 := by omega
                have t1 : decide (-(v : Int) < -922337203685477580) = false := decide_eq_false (by omega)
                have hw1 : IntKind.i64.wrap (10 * -(v : Int)) = 10 * -(v : Int) := IntWalk.i64_in _ (by omega)
                have hw2 : IntKind.i64.wrap (10 * -(v : Int) - (d : Int)) = 10 * -(v : Int) - (d : Int) := IntWalk.i64_in _ (by omega)
                have hw3 : wrap64 (10 * -(v : Int)) = 10 * -(v : Int) := by unfold wrap64; omega
                have hw4 : wrap64 (10 * -(v : Int) - (d : Int)) = 10 * -(v : Int) - (d : Int) := by unfold wrap64; omega
                by_cases hve : v = 922337203685477580
                · subst hve
                  have t3 : decide ((8 : Int) < (d : Int)) = false := decide_eq_false (by omega)
                  have t3' : decide (8 < d) = false := decide_eq_false (by omega)
                  clear hg hvm
                  go_wp2_with fail
                  go_roundw
                  case rel => exact .inr ⟨j + 1, by omega, by simp; omega, by rw [HVS2.out]; simp; omega, by rw [HVS2.out]; omega, trivial⟩
                  case measure => (simp [intOf] <;> omega)
                · have t2 : (-(v : Int) == -922337203685477580) = false := by simp; omega
                  clear hg hvm
                  go_wp2_with fail
                  go_roundw
                  case rel => exact .inr ⟨j + 1, by omega, by simp; omega, by rw [HVS2.out]; simp; omega, by rw [HVS2.out]; omega, trivial⟩
                  case measure => (simp [intOf] <;> omega)
            · have hjk2 : a + 1 + j = k := by omega
              have hdd : decide (((a + 1 + j : Nat) : Int) < (k : Int)) = false := decide_eq_false (by omega)
              have hall : (figL s (a + 1) k).take j = figL s (a + 1) k := List.take_of_length_le (by rw [figL_len HTL.out.2]; omega)
              rw [hall] at hval ⊢
              have HV := Lib.hid hval
              obtain ⟨v, hv⟩ : ∃ v, valF 0 (figL s (a + 1) k) = v := ⟨_, rfl⟩
              rw [hv] at hval ⊢
              have HVV := Lib.hid hv
              clear hall hv hjT hjk
              go_wp2_with fail
              have hset := HG.out.set (.int .i64 3) (.string ⟨#[]⟩) (.int .i64 (-(v : Int))) (.bool false) (.int .i64 0) (.int .i64 (k : Int)) (.int .i64 0)
              have r0 := hset.c0
              have r1 := hset.c1
              have r2 := hset.c2
              have r3 := hset.c3
              have r4 := hset.c4
              have r5 := hset.c5
              have r6 := hset.c6
              refine bodyPost_ret (v := .agg #[.int .i64 3, .string ⟨#[]⟩, .int .i64 (-(v : Int)), .bool false, .int .i64 0, .int .i64 (k : Int), .int .i64 0]) (by simp [results, Tryz.results101, go_sem, r0, r1, r2, r3, r4, r5, r6]) rfl ⟨below_gotSet HB.out (Nat.le_refl _) _ _ _ _ _ _ _, ?_⟩
              rw [HNL.out, if_neg (by have := HV.out; omega), HVV.out]
              show _ = Ending.returned (.agg #[.int .i64 3, .string ⟨#[]⟩, .int .i64 (-(v : Int)), .bool false, .int .i64 0, .int .i64 ((s.size - (s.data.toList.drop k).length : Nat) : Int), .int .i64 0])
              rw [drop_len HTL.out.2]
set_option maxRecDepth 100000 in
set_option maxHeartbeats 16000000 in
theorem rnum_high (s : ByteArray) (a : Nat) (w : World) (ha : a < s.size) (hs : s.size ≤ 65536) (hf : ofB figI (s[a]'ha) = true) :
    Calls Tryz.prog 101 #[.string s, .int .i64 (a : Int)] w fun e w' => Below w.heap.size w w' ∧ e = .returned (gotV s.size (numL (s[a]'ha) (s.data.toList.drop (a + 1)))) := by
  have hG := IsGot.new (v0 := .int .i64 0) (v1 := .string ⟨#[]⟩) (v2 := .int .i64 0) (v3 := .bool false) (v4 := .int .i64 0) (v5 := .int .i64 0) (v6 := .int .i64 0) w
  have HG := Lib.hid hG
  have HB := Lib.hid ((Below.refl w.heap.size w).alloc (Nat.le_refl _) (.cells #[.int .i64 0, .string ⟨#[]⟩, .int .i64 0, .bool false, .int .i64 0, .int .i64 0, .int .i64 0] 115))
  have hnum := numL_high ha hf
  obtain ⟨T, hT⟩ : ∃ T, runB figI s (a + 1) = T := ⟨_, rfl⟩
  have hTl := runB_le (P := figI) (s := s) (a := a + 1) ha
  rw [hT] at hTl hnum
  have HTL := Lib.hid hTl
  have HT := Lib.hid hT
  have HAF := Lib.hid hnum.1
  have HNL := Lib.hid (show numL (s[a]'ha) (s.data.toList.drop (a + 1)) = if 9223372036854775808 ≤ valF 0 (figL s a T) then .bad 3 else .tok ⟨3, [], (valF 0 (figL s a T) : Int), false⟩ (s.data.toList.drop T) from hnum.2)
  have hl : ((s[a].toNat : Int) == 45) = false := by have := fig_of hf; simp; omega
  clear hG hT hTl hnum
  have hw0g : ∃ w0, w.alloc (.cells #[.int .i64 0, .string ⟨#[]⟩, .int .i64 0, .bool false, .int .i64 0, .int .i64 0, .int .i64 0] 115) = w0 := ⟨_, rfl⟩
  go_enter Tryz.func101, Tryz.ntmps101
  go_wp2_with fail
  obtain ⟨w0, hw0⟩ := hw0g
  rw [hw0] at HG HB ⊢
  have k0 := HG.out.c0; have k1 := HG.out.c1; have k2 := HG.out.c2; have k3 := HG.out.c3; have k4 := HG.out.c4; have k5 := HG.out.c5; have k6 := HG.out.c6
  have l0 := HG.out.fr 0; have l1 := HG.out.fr 1; have l2 := HG.out.fr 2; have l3 := HG.out.fr 3; have l4 := HG.out.fr 4; have l5 := HG.out.fr 5; have l6 := HG.out.fr 6
  go_loopw [5] (fun i wr => ∃ k : Nat, a + 1 ≤ k ∧ k ≤ s.size ∧ i = .int .i64 (k : Int) ∧ runB figI s k = T ∧ w0 = wr) (fun i _ => s.size + 1 - (intOf i).toNat)
  case atStart => exact ⟨a + 1, Nat.le_refl _, ha, by simp, HT.out, rfl⟩
  case round =>
    obtain ⟨k, hak, hk, rfl, hr, rfl⟩ := hrel
    cases hm : moreB figI s k with
    | true =>
      obtain ⟨hkl, hr2⟩ := runB_more hm
      have hd : decide ((k : Int) < (s.size : Int)) = true := decide_eq_true (by omega)
      have hfg : figI ((s[k]'hkl).toNat : Int) = true := ofB_at hm hkl
      have HR := Lib.hid (hr2.trans hr)
      clear hr hr2 hm
      go_wp2_with (go_at_call 100; with_reducible refine (rfig5_calls _ _).mono ?_; rintro e w' ⟨rfl, rfl⟩; rw [hfg])
      go_roundw
      case rel => exact ⟨k + 1, by omega, hkl, by simp, HR.out, trivial⟩
      case measure => simp [intOf]; omega
    | false =>
      have hkT : k = T := by rw [← hr, runB_stop hm]
      subst hkT
      have hloop : (decide ((k : Int) < (s.size : Int)) = true ∧ ∃ h : k < s.size, figI ((s[k]'h).toNat : Int) = false) ∨ (decide ((k : Int) < (s.size : Int)) = false ∧ ¬ k < s.size) := by
        by_cases h : k < s.size
        · exact .inl ⟨decide_eq_true (by omega), h, ofB_no hm h⟩
        · exact .inr ⟨decide_eq_false (by omega), h⟩
      clear hr hm
      rcases hloop with ⟨hd, hkl, hfg⟩ | ⟨hd, hnl⟩
      · go_wp2_with (go_at_call 100; with_reducible refine (rfig5_calls _ _).mono ?_; rintro e w' ⟨rfl, rfl⟩; rw [hfg])
        go_loopw [8, 7] (fun i n wr => ∃ j : Nat, a + j ≤ k ∧ i = .int .i64 ((a + j : Nat) : Int) ∧ n = .int .i64 (-(valF 0 ((figL s a k).take j) : Int)) ∧ valF 0 ((figL s a k).take j) ≤ 9223372036854775808 ∧ w0 = wr) (fun i _ _ => k + 1 - (intOf i).toNat)
        case atStart => exact ⟨0, by have := HTL.out.1; omega, by simp, by simp [valF], by simp [valF], rfl⟩
        case round =>
          obtain ⟨j, hjT, rfl, rfl, hval, rfl⟩ := hrel
          by_cases hjk : a + j < k
          · have haj2 : (((a + j : Nat) : Int) == (a : Int)) = decide (j = 0) := by
              by_cases h : j = 0
              · subst h; simp
              · rw [decide_eq_false h]; simp; omega
            by_cases hj0 : j = 0
            · subst hj0
              have haj : ((a : Int) == (a : Int)) = true := by simp
              clear haj2
              have hkk : k ≤ s.size := HTL.out.2
              have hDj : (figL s a k)[0]? = some (s[a]'ha) := figL_at hkk hjk
              have hdf2 := fig_of (HAF.out _ (List.mem_of_getElem? hDj))
              have hvs := valF_step hDj
              have hdd : decide ((a : Int) < (k : Int)) = true := decide_eq_true (by omega)
              obtain ⟨d, hdv⟩ : ∃ d : Nat, (s[a]'ha).toNat = 48 + d := ⟨(s[a]'ha).toNat - 48, by omega⟩
              have hd9 : d ≤ 9 := by omega
              have hs48 : (48 : Int) + (d : Int) - 48 = (d : Int) := by omega
              have HVS2 := Lib.hid (show valF 0 ((figL s a k).take 1) = d from by rw [hvs, hdv]; simp [valF])
              rw [show valF 0 ((figL s a k).take 0) = 0 from rfl]
              have hw1 : IntKind.i64.wrap (-(d : Int)) = -(d : Int) := IntWalk.i64_in _ (by omega)
              have hw2 : IntKind.i64.wrap (0 - (d : Int)) = -(d : Int) := by rw [Int.zero_sub]; exact hw1
              have hw3 : wrap64 (-(d : Int)) = -(d : Int) := by unfold wrap64; omega
              have hw4 : wrap64 (0 - (d : Int)) = -(d : Int) := by unfold wrap64; omega
              clear hvs hDj hdf2 hval
              go_wp2_with fail
              go_roundw
              case rel => exact ⟨1, by omega, by simp, by rw [HVS2.out]; try simp, by rw [HVS2.out]; omega, trivial⟩
              case measure => (simp [intOf] <;> omega)
            · have haj : (((a + j : Nat) : Int) == (a : Int)) = false := by rw [haj2]; simp [hj0]
              clear haj2
              have hkk : k ≤ s.size := HTL.out.2
              have hij : a + j < s.size := by omega
              have hDj : (figL s a k)[j]? = some (s[a + j]'hij) := figL_at hkk hjk
              have hdf := HAF.out _ (List.mem_of_getElem? hDj)
              have hdf2 := fig_of hdf
              have hvs := valF_step hDj
              have hvm := valF_mono (figL s a k) (j + 1)
              have HVS := Lib.hid hvs
              have HVM := Lib.hid hvm
              have hdd : decide (((a + j : Nat) : Int) < (k : Int)) = true := decide_eq_true (by omega)
              obtain ⟨d, hdv⟩ : ∃ d : Nat, (s[a + j]'hij).toNat = 48 + d := ⟨(s[a + j]'hij).toNat - 48, by omega⟩
              have hd9 : d ≤ 9 := by omega
              have hs48 : (48 : Int) + (d : Int) - 48 = (d : Int) := by omega
              obtain ⟨v, hv⟩ : ∃ v, valF 0 ((figL s a k).take j) = v := ⟨_, rfl⟩
              rw [hv] at hval hvs
              have HV := Lib.hid hv
              have hvs2 : valF 0 ((figL s a k).take (j + 1)) = v * 10 + d := by rw [hvs, hdv]; omega
              have HVS2 := Lib.hid hvs2
              rw [hvs2] at hvm
              rw [hv]
              clear hvs hvs2 hDj hdf hdf2 hv
              by_cases hg : 922337203685477580 < v ∨ (v = 922337203685477580 ∧ 8 < d)
              · have hbig : 9223372036854775808 < valF 0 (figL s a k) := by omega
                have HBIG := Lib.hid hbig
                clear hbig hvm
                by_cases hg1 : 922337203685477580 < v
                · have t1 : decide (-(v : Int) < -922337203685477580) = true := decide_eq_true (by omega)
                  clear hg
                  go_wp2_with fail
                  have hset := HG.out.set (.int .i64 0) (.string ⟨#[]⟩) (.int .i64 0) (.bool false) (.int .i64 0) (.int .i64 0) (.int .i64 3)
                  have r0 := hset.c0
                  have r1 := hset.c1
                  have r2 := hset.c2
                  have r3 := hset.c3
                  have r4 := hset.c4
                  have r5 := hset.c5
                  have r6 := hset.c6
                  refine bodyPost_ret (v := .agg #[.int .i64 0, .string ⟨#[]⟩, .int .i64 0, .bool false, .int .i64 0, .int .i64 0, .int .i64 3]) (by simp [results, Tryz.results101, go_sem, r0, r1, r2, r3, r4, r5, r6]) rfl ⟨below_gotSet HB.out (Nat.le_refl _) _ _ _ _ _ _ _, ?_⟩
                  rw [HNL.out, if_pos (by have := HBIG.out; omega)]
                  rfl
                · have hve : v = 922337203685477580 := by omega
                  subst hve
                  have t3 : decide ((8 : Int) < (d : Int)) = true := decide_eq_true (by omega)
                  have t3' : decide (8 < d) = true := decide_eq_true (by omega)
                  clear hg hg1
                  skip
                  go_wp2_with fail
                  have hset := HG.out.set (.int .i64 0) (.string ⟨#[]⟩) (.int .i64 0) (.bool false) (.int .i64 0) (.int .i64 0) (.int .i64 3)
                  have r0 := hset.c0
                  have r1 := hset.c1
                  have r2 := hset.c2
                  have r3 := hset.c3
                  have r4 := hset.c4
                  have r5 := hset.c5
                  have r6 := hset.c6
                  refine bodyPost_ret (v := .agg #[.int .i64 0, .string ⟨#[]⟩, .int .i64 0, .bool false, .int .i64 0, .int .i64 0, .int .i64 3]) (by simp [results, Tryz.results101, go_sem, r0, r1, r2, r3, r4, r5, r6]) rfl ⟨below_gotSet HB.out (Nat.le_refl _) _ _ _ _ _ _ _, ?_⟩
                  rw [HNL.out, if_pos (by have := HBIG.out; omega)]
                  rfl
              · have hv' : v * 10 + d ≤ 9223372036854775808 := by omega
                have t1 : decide (-(v : Int) < -922337203685477580) = false := decide_eq_false (by omega)
                have hw1 : IntKind.i64.wrap (10 * -(v : Int)) = 10 * -(v : Int) := IntWalk.i64_in _ (by omega)
                have hw2 : IntKind.i64.wrap (10 * -(v : Int) - (d : Int)) = 10 * -(v : Int) - (d : Int) := IntWalk.i64_in _ (by omega)
                have hw3 : wrap64 (10 * -(v : Int)) = 10 * -(v : Int) := by unfold wrap64; omega
                have hw4 : wrap64 (10 * -(v : Int) - (d : Int)) = 10 * -(v : Int) - (d : Int) := by unfold wrap64; omega
                by_cases hve : v = 922337203685477580
                · subst hve
                  have t3 : decide ((8 : Int) < (d : Int)) = false := decide_eq_false (by omega)
                  have t3' : decide (8 < d) = false := decide_eq_false (by omega)
                  clear hg hvm
                  go_wp2_with fail
                  go_roundw
                  case rel => exact ⟨j + 1, by omega, by simp; omega, by rw [HVS2.out]; simp; omega, by rw [HVS2.out]; omega, trivial⟩
                  case measure => (simp [intOf] <;> omega)
                · have t2 : (-(v : Int) == -922337203685477580) = false := by simp; omega
                  clear hg hvm
                  go_wp2_with fail
                  go_roundw
                  case rel => exact ⟨j + 1, by omega, by simp; omega, by rw [HVS2.out]; simp; omega, by rw [HVS2.out]; omega, trivial⟩
                  case measure => (simp [intOf] <;> omega)
          · have hjk2 : a + j = k := by omega
            have hdd : decide (((a + j : Nat) : Int) < (k : Int)) = false := decide_eq_false (by omega)
            have hall : (figL s a k).take j = figL s a k := List.take_of_length_le (by rw [figL_len HTL.out.2]; omega)
            rw [hall] at hval ⊢
            have HV := Lib.hid hval
            obtain ⟨v, hv⟩ : ∃ v, valF 0 (figL s a k) = v := ⟨_, rfl⟩
            rw [hv] at hval ⊢
            have HVV := Lib.hid hv
            clear hall hv hjT hjk
            by_cases hm : v = 9223372036854775808
            · have tm : (-(v : Int) == -9223372036854775808) = true := by simp; omega
              go_wp2_with fail
              have hset := HG.out.set (.int .i64 0) (.string ⟨#[]⟩) (.int .i64 0) (.bool false) (.int .i64 0) (.int .i64 0) (.int .i64 3)
              have r0 := hset.c0
              have r1 := hset.c1
              have r2 := hset.c2
              have r3 := hset.c3
              have r4 := hset.c4
              have r5 := hset.c5
              have r6 := hset.c6
              refine bodyPost_ret (v := .agg #[.int .i64 0, .string ⟨#[]⟩, .int .i64 0, .bool false, .int .i64 0, .int .i64 0, .int .i64 3]) (by simp [results, Tryz.results101, go_sem, r0, r1, r2, r3, r4, r5, r6]) rfl ⟨below_gotSet HB.out (Nat.le_refl _) _ _ _ _ _ _ _, ?_⟩
              rw [HNL.out, if_pos (by rw [HVV.out]; omega)]
              rfl
            · have tm : (-(v : Int) == -9223372036854775808) = false := by simp; omega
              have hw1 : IntKind.i64.wrap (-(-(v : Int))) = (v : Int) := by rw [Int.neg_neg]; exact IntWalk.i64_in _ (by omega)
              have hw2 : IntKind.i64.wrap (v : Int) = (v : Int) := IntWalk.i64_in _ (by omega)
              go_wp2_with fail
              have hset := HG.out.set (.int .i64 3) (.string ⟨#[]⟩) (.int .i64 ((v : Int))) (.bool false) (.int .i64 0) (.int .i64 (k : Int)) (.int .i64 0)
              have r0 := hset.c0
              have r1 := hset.c1
              have r2 := hset.c2
              have r3 := hset.c3
              have r4 := hset.c4
              have r5 := hset.c5
              have r6 := hset.c6
              refine bodyPost_ret (v := .agg #[.int .i64 3, .string ⟨#[]⟩, .int .i64 ((v : Int)), .bool false, .int .i64 0, .int .i64 (k : Int), .int .i64 0]) (by simp [results, Tryz.results101, go_sem, r0, r1, r2, r3, r4, r5, r6]) rfl ⟨below_gotSet HB.out (Nat.le_refl _) _ _ _ _ _ _ _, ?_⟩
              rw [HNL.out, if_neg (by rw [HVV.out]; omega), HVV.out]
              show _ = Ending.returned (.agg #[.int .i64 3, .string ⟨#[]⟩, .int .i64 (v : Int), .bool false, .int .i64 0, .int .i64 ((s.size - (s.data.toList.drop k).length : Nat) : Int), .int .i64 0])
              rw [drop_len HTL.out.2]
      · go_wp2_with (go_at_call 100; fail)
        go_loopw [8, 7] (fun i n wr => ∃ j : Nat, a + j ≤ k ∧ i = .int .i64 ((a + j : Nat) : Int) ∧ n = .int .i64 (-(valF 0 ((figL s a k).take j) : Int)) ∧ valF 0 ((figL s a k).take j) ≤ 9223372036854775808 ∧ w0 = wr) (fun i _ _ => k + 1 - (intOf i).toNat)
        case atStart => exact ⟨0, by have := HTL.out.1; omega, by simp, by simp [valF], by simp [valF], rfl⟩
        case round =>
          obtain ⟨j, hjT, rfl, rfl, hval, rfl⟩ := hrel
          by_cases hjk : a + j < k
          · have haj2 : (((a + j : Nat) : Int) == (a : Int)) = decide (j = 0) := by
              by_cases h : j = 0
              · subst h; simp
              · rw [decide_eq_false h]; simp; omega
            by_cases hj0 : j = 0
            · subst hj0
              have haj : ((a : Int) == (a : Int)) = true := by simp
              clear haj2
              have hkk : k ≤ s.size := HTL.out.2
              have hDj : (figL s a k)[0]? = some (s[a]'ha) := figL_at hkk hjk
              have hdf2 := fig_of (HAF.out _ (List.mem_of_getElem? hDj))
              have hvs := valF_step hDj
              have hdd : decide ((a : Int) < (k : Int)) = true := decide_eq_true (by omega)
              obtain ⟨d, hdv⟩ : ∃ d : Nat, (s[a]'ha).toNat = 48 + d := ⟨(s[a]'ha).toNat - 48, by omega⟩
              have hd9 : d ≤ 9 := by omega
              have hs48 : (48 : Int) + (d : Int) - 48 = (d : Int) := by omega
              have HVS2 := Lib.hid (show valF 0 ((figL s a k).take 1) = d from by rw [hvs, hdv]; simp [valF])
              rw [show valF 0 ((figL s a k).take 0) = 0 from rfl]
              have hw1 : IntKind.i64.wrap (-(d : Int)) = -(d : Int) := IntWalk.i64_in _ (by omega)
              have hw2 : IntKind.i64.wrap (0 - (d : Int)) = -(d : Int) := by rw [Int.zero_sub]; exact hw1
              have hw3 : wrap64 (-(d : Int)) = -(d : Int) := by unfold wrap64; omega
              have hw4 : wrap64 (0 - (d : Int)) = -(d : Int) := by unfold wrap64; omega
              clear hvs hDj hdf2 hval
              go_wp2_with fail
              go_roundw
              case rel => exact ⟨1, by omega, by simp, by rw [HVS2.out]; try simp, by rw [HVS2.out]; omega, trivial⟩
              case measure => (simp [intOf] <;> omega)
            · have haj : (((a + j : Nat) : Int) == (a : Int)) = false := by rw [haj2]; simp [hj0]
              clear haj2
              have hkk : k ≤ s.size := HTL.out.2
              have hij : a + j < s.size := by omega
              have hDj : (figL s a k)[j]? = some (s[a + j]'hij) := figL_at hkk hjk
              have hdf := HAF.out _ (List.mem_of_getElem? hDj)
              have hdf2 := fig_of hdf
              have hvs := valF_step hDj
              have hvm := valF_mono (figL s a k) (j + 1)
              have HVS := Lib.hid hvs
              have HVM := Lib.hid hvm
              have hdd : decide (((a + j : Nat) : Int) < (k : Int)) = true := decide_eq_true (by omega)
              obtain ⟨d, hdv⟩ : ∃ d : Nat, (s[a + j]'hij).toNat = 48 + d := ⟨(s[a + j]'hij).toNat - 48, by omega⟩
              have hd9 : d ≤ 9 := by omega
              have hs48 : (48 : Int) + (d : Int) - 48 = (d : Int) := by omega
              obtain ⟨v, hv⟩ : ∃ v, valF 0 ((figL s a k).take j) = v := ⟨_, rfl⟩
              rw [hv] at hval hvs
              have HV := Lib.hid hv
              have hvs2 : valF 0 ((figL s a k).take (j + 1)) = v * 10 + d := by rw [hvs, hdv]; omega
              have HVS2 := Lib.hid hvs2
              rw [hvs2] at hvm
              rw [hv]
              clear hvs hvs2 hDj hdf hdf2 hv
              by_cases hg : 922337203685477580 < v ∨ (v = 922337203685477580 ∧ 8 < d)
              · have hbig : 9223372036854775808 < valF 0 (figL s a k) := by omega
                have HBIG := Lib.hid hbig
                clear hbig hvm
                by_cases hg1 : 922337203685477580 < v
                · have t1 : decide (-(v : Int) < -922337203685477580) = true := decide_eq_true (by omega)
                  clear hg
                  go_wp2_with fail
                  have hset := HG.out.set (.int .i64 0) (.string ⟨#[]⟩) (.int .i64 0) (.bool false) (.int .i64 0) (.int .i64 0) (.int .i64 3)
                  have r0 := hset.c0
                  have r1 := hset.c1
                  have r2 := hset.c2
                  have r3 := hset.c3
                  have r4 := hset.c4
                  have r5 := hset.c5
                  have r6 := hset.c6
                  refine bodyPost_ret (v := .agg #[.int .i64 0, .string ⟨#[]⟩, .int .i64 0, .bool false, .int .i64 0, .int .i64 0, .int .i64 3]) (by simp [results, Tryz.results101, go_sem, r0, r1, r2, r3, r4, r5, r6]) rfl ⟨below_gotSet HB.out (Nat.le_refl _) _ _ _ _ _ _ _, ?_⟩
                  rw [HNL.out, if_pos (by have := HBIG.out; omega)]
                  rfl
                · have hve : v = 922337203685477580 := by omega
                  subst hve
                  have t3 : decide ((8 : Int) < (d : Int)) = true := decide_eq_true (by omega)
                  have t3' : decide (8 < d) = true := decide_eq_true (by omega)
                  clear hg hg1
                  skip
                  go_wp2_with fail
                  have hset := HG.out.set (.int .i64 0) (.string ⟨#[]⟩) (.int .i64 0) (.bool false) (.int .i64 0) (.int .i64 0) (.int .i64 3)
                  have r0 := hset.c0
                  have r1 := hset.c1
                  have r2 := hset.c2
                  have r3 := hset.c3
                  have r4 := hset.c4
                  have r5 := hset.c5
                  have r6 := hset.c6
                  refine bodyPost_ret (v := .agg #[.int .i64 0, .string ⟨#[]⟩, .int .i64 0, .bool false, .int .i64 0, .int .i64 0, .int .i64 3]) (by simp [results, Tryz.results101, go_sem, r0, r1, r2, r3, r4, r5, r6]) rfl ⟨below_gotSet HB.out (Nat.le_refl _) _ _ _ _ _ _ _, ?_⟩
                  rw [HNL.out, if_pos (by have := HBIG.out; omega)]
                  rfl
              · have hv' : v * 10 + d ≤ 9223372036854775808 := by omega
                have t1 : decide (-(v : Int) < -922337203685477580) = false := decide_eq_false (by omega)
                have hw1 : IntKind.i64.wrap (10 * -(v : Int)) = 10 * -(v : Int) := IntWalk.i64_in _ (by omega)
                have hw2 : IntKind.i64.wrap (10 * -(v : Int) - (d : Int)) = 10 * -(v : Int) - (d : Int) := IntWalk.i64_in _ (by omega)
                have hw3 : wrap64 (10 * -(v : Int)) = 10 * -(v : Int) := by unfold wrap64; omega
                have hw4 : wrap64 (10 * -(v : Int) - (d : Int)) = 10 * -(v : Int) - (d : Int) := by unfold wrap64; omega
                by_cases hve : v = 922337203685477580
                · subst hve
                  have t3 : decide ((8 : Int) < (d : Int)) = false := decide_eq_false (by omega)
                  have t3' : decide (8 < d) = false := decide_eq_false (by omega)
                  clear hg hvm
                  go_wp2_with fail
                  go_roundw
                  case rel => exact ⟨j + 1, by omega, by simp; omega, by rw [HVS2.out]; simp; omega, by rw [HVS2.out]; omega, trivial⟩
                  case measure => (simp [intOf] <;> omega)
                · have t2 : (-(v : Int) == -922337203685477580) = false := by simp; omega
                  clear hg hvm
                  go_wp2_with fail
                  go_roundw
                  case rel => exact ⟨j + 1, by omega, by simp; omega, by rw [HVS2.out]; simp; omega, by rw [HVS2.out]; omega, trivial⟩
                  case measure => (simp [intOf] <;> omega)
          · have hjk2 : a + j = k := by omega
            have hdd : decide (((a + j : Nat) : Int) < (k : Int)) = false := decide_eq_false (by omega)
            have hall : (figL s a k).take j = figL s a k := List.take_of_length_le (by rw [figL_len HTL.out.2]; omega)
            rw [hall] at hval ⊢
            have HV := Lib.hid hval
            obtain ⟨v, hv⟩ : ∃ v, valF 0 (figL s a k) = v := ⟨_, rfl⟩
            rw [hv] at hval ⊢
            have HVV := Lib.hid hv
            clear hall hv hjT hjk
            by_cases hm : v = 9223372036854775808
            · have tm : (-(v : Int) == -9223372036854775808) = true := by simp; omega
              go_wp2_with fail
              have hset := HG.out.set (.int .i64 0) (.string ⟨#[]⟩) (.int .i64 0) (.bool false) (.int .i64 0) (.int .i64 0) (.int .i64 3)
              have r0 := hset.c0
              have r1 := hset.c1
              have r2 := hset.c2
              have r3 := hset.c3
              have r4 := hset.c4
              have r5 := hset.c5
              have r6 := hset.c6
              refine bodyPost_ret (v := .agg #[.int .i64 0, .string ⟨#[]⟩, .int .i64 0, .bool false, .int .i64 0, .int .i64 0, .int .i64 3]) (by simp [results, Tryz.results101, go_sem, r0, r1, r2, r3, r4, r5, r6]) rfl ⟨below_gotSet HB.out (Nat.le_refl _) _ _ _ _ _ _ _, ?_⟩
              rw [HNL.out, if_pos (by rw [HVV.out]; omega)]
              rfl
            · have tm : (-(v : Int) == -9223372036854775808) = false := by simp; omega
              have hw1 : IntKind.i64.wrap (-(-(v : Int))) = (v : Int) := by rw [Int.neg_neg]; exact IntWalk.i64_in _ (by omega)
              have hw2 : IntKind.i64.wrap (v : Int) = (v : Int) := IntWalk.i64_in _ (by omega)
              go_wp2_with fail
              have hset := HG.out.set (.int .i64 3) (.string ⟨#[]⟩) (.int .i64 ((v : Int))) (.bool false) (.int .i64 0) (.int .i64 (k : Int)) (.int .i64 0)
              have r0 := hset.c0
              have r1 := hset.c1
              have r2 := hset.c2
              have r3 := hset.c3
              have r4 := hset.c4
              have r5 := hset.c5
              have r6 := hset.c6
              refine bodyPost_ret (v := .agg #[.int .i64 3, .string ⟨#[]⟩, .int .i64 ((v : Int)), .bool false, .int .i64 0, .int .i64 (k : Int), .int .i64 0]) (by simp [results, Tryz.results101, go_sem, r0, r1, r2, r3, r4, r5, r6]) rfl ⟨below_gotSet HB.out (Nat.le_refl _) _ _ _ _ _ _ _, ?_⟩
              rw [HNL.out, if_neg (by rw [HVV.out]; omega), HVV.out]
              show _ = Ending.returned (.agg #[.int .i64 3, .string ⟨#[]⟩, .int .i64 (v : Int), .bool false, .int .i64 0, .int .i64 ((s.size - (s.data.toList.drop k).length : Nat) : Int), .int .i64 0])
              rw [drop_len HTL.out.2]
end Go.Proofs.YtminbdcabacfbaaGreatDoor.V

namespace Go.Proofs.YtminbdcabacfbaaGreatDoor.V
set_option linter.unusedVariables false
set_option linter.unusedSimpArgs false
open Go.RowKit

theorem bs_of {x : ByteArray} {l : List UInt8} (h : x.data.toList = l) : bs l = x := by
  rw [← h]
  unfold bs
  cases x
  simp
theorem ext_list (s : ByteArray) (a n : Nat) : (s.extract a (a + n)).data.toList = (s.data.toList.drop a).take n := by
  simp only [ByteArray.data_extract, Array.toList_extract, List.extract]
  rw [show a + n - a = n by omega]
theorem ext_one {s : ByteArray} {a : Nat} (h : a < s.size) : s.extract a (a + 1) = bs [s[a]] := (bs_of (by rw [ext_list, drop_at h]; rfl)).symm
theorem ext_two {s : ByteArray} {a : Nat} (h : a + 1 < s.size) : s.extract a (a + 2) = bs [s[a], s[a + 1]] := (bs_of (by rw [ext_list, drop_at (show a < s.size by omega), drop_at h]; rfl)).symm
theorem gotV_form (N : Nat) (g : Got) : ∃ v0 v1 v2 v3 v4 v5 v6, gotV N g = .agg #[.int .i64 v0, .string v1, .int .i64 v2, .bool v3, .int .i64 v4, .int .i64 v5, .int .i64 v6] := by
  cases g with
  | bad e => exact ⟨_, _, _, _, _, _, _, rfl⟩
  | tok t r => exact ⟨_, _, _, _, _, _, _, rfl⟩
theorem oneL_small {c : UInt8} {t : List UInt8} (h : ofB sml c = true) : oneL c t = namedL 1 (c :: t) := by rw [oneL, if_pos h]
theorem oneL_big {c : UInt8} {t : List UInt8} (h0 : ofB sml c = false) (h : ofB bgI c = true) : oneL c t = namedL 2 (c :: t) := by rw [oneL, if_neg (by simp [h0]), if_pos h]
theorem oneL_fig {c : UInt8} {t : List UInt8} (h0 : ofB sml c = false) (h1 : ofB bgI c = false) (h : ofB figI c = true) : oneL c t = numL c t := by rw [oneL, if_neg (by simp [h0]), if_neg (by simp [h1]), if_pos (by rw [h]; rfl)]
theorem oneL_low {d : UInt8} {u : List UInt8} (h : ofB figI d = true) : oneL 45 (d :: u) = numL 45 (d :: u) := by rw [oneL, if_neg (by decide), if_neg (by decide), if_pos (by rw [List.headD_cons, h]; rfl)]
theorem oneL_low_no {d : UInt8} {u : List UInt8} (h : ofB figI d = false) : oneL 45 (d :: u) = .bad 2 := by rw [oneL, if_neg (by decide), if_neg (by decide), if_neg (by rw [List.headD_cons, h]; simp [ofB, figI]), if_neg (by decide)]; rfl
theorem oneL_low_end : oneL 45 [] = .bad 2 := rfl
theorem oneL_quot (t : List UInt8) : oneL 39 t = qres (quotL t) := by rw [oneL, if_neg (by decide), if_neg (by decide), if_neg (by simp [ofB, figI]), if_pos (by decide)]
theorem oneL_markc {c : UInt8} {t : List UInt8} (h0 : ofB sml c = false) (h1 : ofB bgI c = false) (h2 : ofB figI c = false) (h3 : (c == 45) = false) (h4 : (c == 39) = false) : oneL c t = markL (c :: t) := by
  rw [oneL, if_neg (by simp [h0]), if_neg (by simp [h1]), if_neg (by simp [h2, h3]), if_neg (by simp [h4])]
theorem markL_no {c : UInt8} {t : List UInt8} (h1 : (c == 58) = false) (h2 : (c == 60) = false) (h3 : (c == 62) = false) (h4 : (c == 33) = false) (h5 : markOne c = false) : markL (c :: t) = .bad 2 := by
  have e : ∀ x : UInt8, ((x == c) : Bool) = (c == x) := fun x => Bool.beq_comm
  unfold markL
  rw [if_neg, if_neg]
  · simp [h5]
  · simp [markTwo, List.isPrefixOf, e, h1, h2, h3, h4]
theorem markL_two (a d : UInt8) (u : List UInt8) (h : markTwo (a :: d :: u) = true) : markL (a :: d :: u) = .tok ⟨4, [a, d], 0, false⟩ u := by
  unfold markL
  rw [if_pos h]
  rfl
theorem markL_one (a : UInt8) (t : List UInt8) (h : markTwo (a :: t) = false) (h1 : markOne a = true) : markL (a :: t) = .tok ⟨4, [a], 0, false⟩ t := by
  unfold markL
  rw [if_neg (by simp [h]), if_pos (show markOne ((a :: t).headD 0) = true from h1)]
  rfl
theorem markL_none (a : UInt8) (t : List UInt8) (h : markTwo (a :: t) = false) (h1 : markOne a = false) : markL (a :: t) = .bad 2 := by
  unfold markL
  rw [if_neg (by simp [h]), if_neg (by rw [show (a :: t).headD 0 = a from rfl, h1]; decide)]
theorem byteV (c : UInt8) (n : Nat) (h : n < 256) (e : ((c.toNat : Int) == (n : Int)) = true) : c = UInt8.ofNat n := beq_iff_eq.1 ((byte_eq c n h).symm.trans e)
end Go.Proofs.YtminbdcabacfbaaGreatDoor.V

namespace Go.Proofs.YtminbdcabacfbaaGreatDoor.V
set_option linter.unusedVariables false
set_option linter.unusedSimpArgs false
open Go.RowKit

set_option maxRecDepth 100000 in
set_option maxHeartbeats 16000000 in
theorem rone_small_y (s : ByteArray) (a : Nat) (w : World) (ha : a < s.size) (hs : s.size ≤ 65536) (hn : a + 1 < s.size) (hsm : sml ((s[a]'ha).toNat : Int) = true) :
    Calls Tryz.prog 67 #[.string s, .int .i64 (a : Int)] w fun e w' => Below w.heap.size w w' ∧ e = .returned (gotV s.size (oneL (s[a]'ha) (s.data.toList.drop (a + 1)))) := by
  have HG := Lib.hid (IsGot.new (v0 := .int .i64 0) (v1 := .string ⟨#[]⟩) (v2 := .int .i64 0) (v3 := .bool false) (v4 := .int .i64 0) (v5 := .int .i64 0) (v6 := .int .i64 0) w)
  have HB := Lib.hid ((Below.refl w.heap.size w).alloc (Nat.le_refl _) (.cells #[.int .i64 0, .string ⟨#[]⟩, .int .i64 0, .bool false, .int .i64 0, .int .i64 0, .int .i64 0] 115))
  have hnd : decide ((a : Int) + 1 < (s.size : Int)) = true := decide_eq_true (by omega)
  have hbg : bgI ((s[a]'ha).toNat : Int) = false := by simp only [sml, bgI] at *; simp at *; omega
  have HQ := Lib.hid (show oneL (s[a]'ha) (s.data.toList.drop (a + 1)) = if 32 < runB wrdI s a - a then .bad 4 else .tok ⟨1, (s.data.toList.drop a).takeWhile (ofB wrdI), 0, false⟩ (s.data.toList.drop (runB wrdI s a)) from by
    rw [oneL_small hsm, ← drop_at ha]
    unfold namedL
    rw [runB_drop, show runB wrdI s a - a = ((s.data.toList.drop a).takeWhile (ofB wrdI)).length by unfold runB; omega])
  obtain ⟨T, hT⟩ : ∃ T, runB wrdI s a = T := ⟨_, rfl⟩
  have hTl := runB_le (P := wrdI) (s := s) (a := a) (by omega)
  have HX := Lib.hid (bs_of (runB_take wrdI s a))
  rw [hT] at hTl HQ HX
  have HTL := Lib.hid hTl
  have HT := Lib.hid hT
  clear hT hTl
  have hw0g : ∃ w0, w.alloc (.cells #[.int .i64 0, .string ⟨#[]⟩, .int .i64 0, .bool false, .int .i64 0, .int .i64 0, .int .i64 0] 115) = w0 := ⟨_, rfl⟩
  go_enter Tryz.func67, Tryz.ntmps67
  have k0 := HG.out.c0; have k1 := HG.out.c1; have k2 := HG.out.c2; have k3 := HG.out.c3; have k4 := HG.out.c4; have k5 := HG.out.c5; have k6 := HG.out.c6
  have l0 := HG.out.fr 0; have l1 := HG.out.fr 1; have l2 := HG.out.fr 2; have l3 := HG.out.fr 3; have l4 := HG.out.fr 4; have l5 := HG.out.fr 5; have l6 := HG.out.fr 6
  go_wp2_with (first
    | (go_at_call 97; with_reducible refine (rsmall5_calls _ _).mono ?_; rintro e w' ⟨rfl, rfl⟩; first | rw [hsm] | rw [hsm'])
    | (go_at_call 98; with_reducible refine (rbig5_calls _ _).mono ?_; rintro e w' ⟨rfl, rfl⟩; first | rw [hbg] | rw [hbg'])
    | (go_at_call 100; with_reducible refine (rfig5_calls _ _).mono ?_; rintro e w' ⟨rfl, rfl⟩; first | rw [hfg] | rw [hfg'] | rw [hfn] | rw [show figI 0 = false from rfl]))
  obtain ⟨w0, hw0⟩ := hw0g
  rw [hw0] at HG HB k0 k1 k2 k3 k4 k5 k6 l0 l1 l2 l3 l4 l5 l6 ⊢
  go_loopw [7] (fun i wr => ∃ k : Nat, a ≤ k ∧ k ≤ s.size ∧ i = .int .i64 (k : Int) ∧ runB wrdI s k = T ∧ w0 = wr) (fun i _ => s.size + 1 - (intOf i).toNat)
  case atStart => exact ⟨a, Nat.le_refl _, Nat.le_of_lt ha, rfl, HT.out, rfl⟩
  case round =>
    obtain ⟨k, hak, hk, rfl, hr, rfl⟩ := hrel
    cases hm : moreB wrdI s k with
    | true =>
      obtain ⟨hkl, hr2⟩ := runB_more hm
      have hd : decide ((k : Int) < (s.size : Int)) = true := decide_eq_true (by omega)
      have hwd : wrdI ((s[k]'hkl).toNat : Int) = true := ofB_at hm hkl
      have HR := Lib.hid (hr2.trans hr)
      clear hr hr2 hm
      go_wp2_with (go_at_call 99; with_reducible refine (rword5_calls _ _).mono ?_; rintro e w' ⟨rfl, rfl⟩; rw [hwd])
      go_roundw
      case rel => exact ⟨k + 1, by omega, hkl, by simp, HR.out, trivial⟩
      case measure => simp [intOf]; omega
    | false =>
      have hkT : k = T := by rw [← hr, runB_stop hm]
      subst hkT
      by_cases hkl : k < s.size
      · have hd : decide ((k : Int) < (s.size : Int)) = true := decide_eq_true (by omega)
        have hwd : wrdI ((s[k]'hkl).toNat : Int) = false := ofB_no hm hkl
        clear hr hm
        by_cases h32 : 32 < k - a
        · have hd32 : decide ((32 : Int) < (k : Int) - (a : Int)) = true := decide_eq_true (by omega)
          go_wp2_with (first
            | (go_at_call 97; with_reducible refine (rsmall5_calls _ _).mono ?_; rintro e w' ⟨rfl, rfl⟩; first | rw [hsm] | rw [hsm'])
            | (go_at_call 98; with_reducible refine (rbig5_calls _ _).mono ?_; rintro e w' ⟨rfl, rfl⟩; first | rw [hbg] | rw [hbg'])
            | (go_at_call 100; with_reducible refine (rfig5_calls _ _).mono ?_; rintro e w' ⟨rfl, rfl⟩; first | rw [hfg] | rw [hfg'] | rw [hfn] | rw [show figI 0 = false from rfl])
            | (go_at_call 99; with_reducible refine (rword5_calls _ _).mono ?_; rintro e w' ⟨rfl, rfl⟩; rw [hwd]))
          have hset := HG.out.set (.int .i64 0) (.string ⟨#[]⟩) (.int .i64 0) (.bool false) (.int .i64 0) (.int .i64 0) (.int .i64 4)
          have r0 := hset.c0
          have r1 := hset.c1
          have r2 := hset.c2
          have r3 := hset.c3
          have r4 := hset.c4
          have r5 := hset.c5
          have r6 := hset.c6
          refine bodyPost_ret (v := .agg #[.int .i64 0, .string ⟨#[]⟩, .int .i64 0, .bool false, .int .i64 0, .int .i64 0, .int .i64 4]) (by simp [results, Tryz.results67, go_sem, r0, r1, r2, r3, r4, r5, r6]) rfl ⟨below_gotSet HB.out (Nat.le_refl _) _ _ _ _ _ _ _, ?_⟩
          rw [HQ.out, if_pos h32]
          rfl
        · have hd32 : decide ((32 : Int) < (k : Int) - (a : Int)) = false := decide_eq_false (by omega)
          have hka : a ≤ k := HTL.out.1
          go_wp2_with (first
            | (go_at_call 97; with_reducible refine (rsmall5_calls _ _).mono ?_; rintro e w' ⟨rfl, rfl⟩; first | rw [hsm] | rw [hsm'])
            | (go_at_call 98; with_reducible refine (rbig5_calls _ _).mono ?_; rintro e w' ⟨rfl, rfl⟩; first | rw [hbg] | rw [hbg'])
            | (go_at_call 100; with_reducible refine (rfig5_calls _ _).mono ?_; rintro e w' ⟨rfl, rfl⟩; first | rw [hfg] | rw [hfg'] | rw [hfn] | rw [show figI 0 = false from rfl])
            | (go_at_call 99; with_reducible refine (rword5_calls _ _).mono ?_; rintro e w' ⟨rfl, rfl⟩; rw [hwd]))
          have hset := HG.out.set (.int .i64 1) (.string (s.extract a k)) (.int .i64 0) (.bool false) (.int .i64 0) (.int .i64 ((k : Int))) (.int .i64 0)
          have r0 := hset.c0
          have r1 := hset.c1
          have r2 := hset.c2
          have r3 := hset.c3
          have r4 := hset.c4
          have r5 := hset.c5
          have r6 := hset.c6
          refine bodyPost_ret (v := .agg #[.int .i64 1, .string (s.extract a k), .int .i64 0, .bool false, .int .i64 0, .int .i64 ((k : Int)), .int .i64 0]) (by simp [results, Tryz.results67, go_sem, r0, r1, r2, r3, r4, r5, r6]) rfl ⟨below_gotSet HB.out (Nat.le_refl _) _ _ _ _ _ _ _, ?_⟩
          rw [HQ.out, if_neg h32]
          show _ = Ending.returned (.agg #[.int .i64 1, .string (bs ((s.data.toList.drop a).takeWhile (ofB wrdI))), .int .i64 0, .bool false, .int .i64 0, .int .i64 ((s.size - (s.data.toList.drop k).length : Nat) : Int), .int .i64 0])
          rw [HX.out, drop_len HTL.out.2]
      · have hd : decide ((k : Int) < (s.size : Int)) = false := decide_eq_false (by omega)
        clear hr hm
        by_cases h32 : 32 < k - a
        · have hd32 : decide ((32 : Int) < (k : Int) - (a : Int)) = true := decide_eq_true (by omega)
          go_wp2_with (first
            | (go_at_call 97; with_reducible refine (rsmall5_calls _ _).mono ?_; rintro e w' ⟨rfl, rfl⟩; first | rw [hsm] | rw [hsm'])
            | (go_at_call 98; with_reducible refine (rbig5_calls _ _).mono ?_; rintro e w' ⟨rfl, rfl⟩; first | rw [hbg] | rw [hbg'])
            | (go_at_call 100; with_reducible refine (rfig5_calls _ _).mono ?_; rintro e w' ⟨rfl, rfl⟩; first | rw [hfg] | rw [hfg'] | rw [hfn] | rw [show figI 0 = false from rfl]))
          have hset := HG.out.set (.int .i64 0) (.string ⟨#[]⟩) (.int .i64 0) (.bool false) (.int .i64 0) (.int .i64 0) (.int .i64 4)
          have r0 := hset.c0
          have r1 := hset.c1
          have r2 := hset.c2
          have r3 := hset.c3
          have r4 := hset.c4
          have r5 := hset.c5
          have r6 := hset.c6
          refine bodyPost_ret (v := .agg #[.int .i64 0, .string ⟨#[]⟩, .int .i64 0, .bool false, .int .i64 0, .int .i64 0, .int .i64 4]) (by simp [results, Tryz.results67, go_sem, r0, r1, r2, r3, r4, r5, r6]) rfl ⟨below_gotSet HB.out (Nat.le_refl _) _ _ _ _ _ _ _, ?_⟩
          rw [HQ.out, if_pos h32]
          rfl
        · have hd32 : decide ((32 : Int) < (k : Int) - (a : Int)) = false := decide_eq_false (by omega)
          have hka : a ≤ k := HTL.out.1
          go_wp2_with (first
            | (go_at_call 97; with_reducible refine (rsmall5_calls _ _).mono ?_; rintro e w' ⟨rfl, rfl⟩; first | rw [hsm] | rw [hsm'])
            | (go_at_call 98; with_reducible refine (rbig5_calls _ _).mono ?_; rintro e w' ⟨rfl, rfl⟩; first | rw [hbg] | rw [hbg'])
            | (go_at_call 100; with_reducible refine (rfig5_calls _ _).mono ?_; rintro e w' ⟨rfl, rfl⟩; first | rw [hfg] | rw [hfg'] | rw [hfn] | rw [show figI 0 = false from rfl]))
          have hset := HG.out.set (.int .i64 1) (.string (s.extract a k)) (.int .i64 0) (.bool false) (.int .i64 0) (.int .i64 ((k : Int))) (.int .i64 0)
          have r0 := hset.c0
          have r1 := hset.c1
          have r2 := hset.c2
          have r3 := hset.c3
          have r4 := hset.c4
          have r5 := hset.c5
          have r6 := hset.c6
          refine bodyPost_ret (v := .agg #[.int .i64 1, .string (s.extract a k), .int .i64 0, .bool false, .int .i64 0, .int .i64 ((k : Int)), .int .i64 0]) (by simp [results, Tryz.results67, go_sem, r0, r1, r2, r3, r4, r5, r6]) rfl ⟨below_gotSet HB.out (Nat.le_refl _) _ _ _ _ _ _ _, ?_⟩
          rw [HQ.out, if_neg h32]
          show _ = Ending.returned (.agg #[.int .i64 1, .string (bs ((s.data.toList.drop a).takeWhile (ofB wrdI))), .int .i64 0, .bool false, .int .i64 0, .int .i64 ((s.size - (s.data.toList.drop k).length : Nat) : Int), .int .i64 0])
          rw [HX.out, drop_len HTL.out.2]
set_option maxRecDepth 100000 in
set_option maxHeartbeats 16000000 in
theorem rone_44_y (s : ByteArray) (a : Nat) (w : World) (ha : a < s.size) (hs : s.size ≤ 65536) (hn : a + 1 < s.size) (hc : (s[a]'ha) = 44) :
    Calls Tryz.prog 67 #[.string s, .int .i64 (a : Int)] w fun e w' => Below w.heap.size w w' ∧ e = .returned (gotV s.size (oneL (s[a]'ha) (s.data.toList.drop (a + 1)))) := by
  have HG := Lib.hid (IsGot.new (v0 := .int .i64 0) (v1 := .string ⟨#[]⟩) (v2 := .int .i64 0) (v3 := .bool false) (v4 := .int .i64 0) (v5 := .int .i64 0) (v6 := .int .i64 0) w)
  have HB := Lib.hid ((Below.refl w.heap.size w).alloc (Nat.le_refl _) (.cells #[.int .i64 0, .string ⟨#[]⟩, .int .i64 0, .bool false, .int .i64 0, .int .i64 0, .int .i64 0] 115))
  have hnd : decide ((a : Int) + 1 < (s.size : Int)) = true := decide_eq_true (by omega)
  have hsm : sml ((s[a]'ha).toNat : Int) = false := by rw [hc]; rfl
  have hbg : bgI ((s[a]'ha).toNat : Int) = false := by rw [hc]; rfl
  have hfg : figI ((s[a]'ha).toNat : Int) = false := by rw [hc]; rfl
  have hcv : ((s[a]'ha).toNat : Int) = 44 := by rw [hc]; rfl
  have hsm' : sml 44 = false := rfl
  have hbg' : bgI 44 = false := rfl
  have hfg' : figI 44 = false := rfl
  have HM := Lib.hid (show markTwo (44 :: s.data.toList.drop (a + 1)) = false from by simp [markTwo, List.isPrefixOf])
  go_enter Tryz.func67, Tryz.ntmps67
  have k0 := HG.out.c0; have k1 := HG.out.c1; have k2 := HG.out.c2; have k3 := HG.out.c3; have k4 := HG.out.c4; have k5 := HG.out.c5; have k6 := HG.out.c6
  have l0 := HG.out.fr 0; have l1 := HG.out.fr 1; have l2 := HG.out.fr 2; have l3 := HG.out.fr 3; have l4 := HG.out.fr 4; have l5 := HG.out.fr 5; have l6 := HG.out.fr 6
  go_wp2_with (first
    | (go_at_call 97; with_reducible refine (rsmall5_calls _ _).mono ?_; rintro e w' ⟨rfl, rfl⟩; first | rw [hsm] | rw [hsm'])
    | (go_at_call 98; with_reducible refine (rbig5_calls _ _).mono ?_; rintro e w' ⟨rfl, rfl⟩; first | rw [hbg] | rw [hbg'])
    | (go_at_call 100; with_reducible refine (rfig5_calls _ _).mono ?_; rintro e w' ⟨rfl, rfl⟩; first | rw [hfg] | rw [hfg'] | rw [hfn] | rw [show figI 0 = false from rfl]))
  refine bodyPost_ret (v := .agg #[.int .i64 4, .string (s.extract a (a + 1)), .int .i64 0, .bool false, .int .i64 0, .int .i64 ((a : Int) + 1), .int .i64 0]) (by simp [results, Tryz.results67, go_sem]) rfl ⟨(Below.refl w.heap.size w).alloc (Nat.le_refl _) _, ?_⟩
  rw [hc, oneL_markc (by decide) (by decide) (by decide) (by decide) (by decide), markL_one 44 _ (HM.out) (by decide), ext_one ha, hc]
  show _ = Ending.returned (.agg #[.int .i64 4, .string (bs [44]), .int .i64 0, .bool false, .int .i64 0, .int .i64 ((s.size - (s.data.toList.drop (a + 1)).length : Nat) : Int), .int .i64 0])
  rw [drop_len (show a + 1 ≤ s.size by omega)]
  rfl
set_option maxRecDepth 100000 in
set_option maxHeartbeats 16000000 in
theorem rone_60two_y (s : ByteArray) (a : Nat) (w : World) (ha : a < s.size) (hs : s.size ≤ 65536) (hn : a + 1 < s.size) (hc : (s[a]'ha) = 60) (hnx : s[a + 1]'hn = 61) :
    Calls Tryz.prog 67 #[.string s, .int .i64 (a : Int)] w fun e w' => Below w.heap.size w w' ∧ e = .returned (gotV s.size (oneL (s[a]'ha) (s.data.toList.drop (a + 1)))) := by
  have HG := Lib.hid (IsGot.new (v0 := .int .i64 0) (v1 := .string ⟨#[]⟩) (v2 := .int .i64 0) (v3 := .bool false) (v4 := .int .i64 0) (v5 := .int .i64 0) (v6 := .int .i64 0) w)
  have HB := Lib.hid ((Below.refl w.heap.size w).alloc (Nat.le_refl _) (.cells #[.int .i64 0, .string ⟨#[]⟩, .int .i64 0, .bool false, .int .i64 0, .int .i64 0, .int .i64 0] 115))
  have hnd : decide ((a : Int) + 1 < (s.size : Int)) = true := decide_eq_true (by omega)
  have hsm : sml ((s[a]'ha).toNat : Int) = false := by rw [hc]; rfl
  have hbg : bgI ((s[a]'ha).toNat : Int) = false := by rw [hc]; rfl
  have hfg : figI ((s[a]'ha).toNat : Int) = false := by rw [hc]; rfl
  have hcv : ((s[a]'ha).toNat : Int) = 60 := by rw [hc]; rfl
  have hsm' : sml 60 = false := rfl
  have hbg' : bgI 60 = false := rfl
  have hfg' : figI 60 = false := rfl
  have hnv : ((s[a + 1]'hn).toNat : Int) = 61 := by rw [hnx]; rfl
  have hfn : figI 61 = false := rfl
  go_enter Tryz.func67, Tryz.ntmps67
  have k0 := HG.out.c0; have k1 := HG.out.c1; have k2 := HG.out.c2; have k3 := HG.out.c3; have k4 := HG.out.c4; have k5 := HG.out.c5; have k6 := HG.out.c6
  have l0 := HG.out.fr 0; have l1 := HG.out.fr 1; have l2 := HG.out.fr 2; have l3 := HG.out.fr 3; have l4 := HG.out.fr 4; have l5 := HG.out.fr 5; have l6 := HG.out.fr 6
  go_wp2_with (first
    | (go_at_call 97; with_reducible refine (rsmall5_calls _ _).mono ?_; rintro e w' ⟨rfl, rfl⟩; first | rw [hsm] | rw [hsm'])
    | (go_at_call 98; with_reducible refine (rbig5_calls _ _).mono ?_; rintro e w' ⟨rfl, rfl⟩; first | rw [hbg] | rw [hbg'])
    | (go_at_call 100; with_reducible refine (rfig5_calls _ _).mono ?_; rintro e w' ⟨rfl, rfl⟩; first | rw [hfg] | rw [hfg'] | rw [hfn] | rw [show figI 0 = false from rfl]))
  refine bodyPost_ret (v := .agg #[.int .i64 4, .string (s.extract a (a + 2)), .int .i64 0, .bool false, .int .i64 0, .int .i64 ((a : Int) + 2), .int .i64 0]) (by simp [results, Tryz.results67, go_sem]) rfl ⟨(Below.refl w.heap.size w).alloc (Nat.le_refl _) _, ?_⟩
  rw [hc, drop_at hn, hnx, oneL_markc (by decide) (by decide) (by decide) (by decide) (by decide), markL_two 60 61 _ (by simp [markTwo, List.isPrefixOf]), ext_two hn, hc, hnx]
  show _ = Ending.returned (.agg #[.int .i64 4, .string (bs [60, 61]), .int .i64 0, .bool false, .int .i64 0, .int .i64 ((s.size - (s.data.toList.drop (a + 1 + 1)).length : Nat) : Int), .int .i64 0])
  rw [drop_len (show a + 1 + 1 ≤ s.size by omega)]
  rfl
set_option maxRecDepth 100000 in
set_option maxHeartbeats 16000000 in
theorem rone_else_y (s : ByteArray) (a : Nat) (w : World) (ha : a < s.size) (hs : s.size ≤ 65536) (hn : a + 1 < s.size) (hsm : sml ((s[a]'ha).toNat : Int) = false) (hbg : bgI ((s[a]'ha).toNat : Int) = false) (hfg : figI ((s[a]'ha).toNat : Int) = false) (e45 : (((s[a]'ha).toNat : Int) == 45) = false) (e39 : (((s[a]'ha).toNat : Int) == 39) = false) (e58 : (((s[a]'ha).toNat : Int) == 58) = false) (e60 : (((s[a]'ha).toNat : Int) == 60) = false) (e62 : (((s[a]'ha).toNat : Int) == 62) = false) (e33 : (((s[a]'ha).toNat : Int) == 33) = false) (e40 : (((s[a]'ha).toNat : Int) == 40) = false) (e41 : (((s[a]'ha).toNat : Int) == 41) = false) (e44 : (((s[a]'ha).toNat : Int) == 44) = false) (e46 : (((s[a]'ha).toNat : Int) == 46) = false) (e47 : (((s[a]'ha).toNat : Int) == 47) = false) (e61 : (((s[a]'ha).toNat : Int) == 61) = false) :
    Calls Tryz.prog 67 #[.string s, .int .i64 (a : Int)] w fun e w' => Below w.heap.size w w' ∧ e = .returned (gotV s.size (oneL (s[a]'ha) (s.data.toList.drop (a + 1)))) := by
  have HG := Lib.hid (IsGot.new (v0 := .int .i64 0) (v1 := .string ⟨#[]⟩) (v2 := .int .i64 0) (v3 := .bool false) (v4 := .int .i64 0) (v5 := .int .i64 0) (v6 := .int .i64 0) w)
  have HB := Lib.hid ((Below.refl w.heap.size w).alloc (Nat.le_refl _) (.cells #[.int .i64 0, .string ⟨#[]⟩, .int .i64 0, .bool false, .int .i64 0, .int .i64 0, .int .i64 0] 115))
  have hnd : decide ((a : Int) + 1 < (s.size : Int)) = true := decide_eq_true (by omega)
  have HQ := Lib.hid (show oneL (s[a]'ha) (s.data.toList.drop (a + 1)) = .bad 2 from by
    have hmo : markOne (s[a]'ha) = false := by unfold markOne; rw [byteNot (d := 40) e40 (by decide), byteNot (d := 41) e41 (by decide), byteNot (d := 44) e44 (by decide), byteNot (d := 46) e46 (by decide), byteNot (d := 47) e47 (by decide), byteNot (d := 60) e60 (by decide), byteNot (d := 62) e62 (by decide), byteNot (d := 61) e61 (by decide)]; rfl
    rw [oneL_markc hsm hbg hfg (byteNot (d := 45) e45 (by decide)) (byteNot (d := 39) e39 (by decide)), markL_no (byteNot (d := 58) e58 (by decide)) (byteNot (d := 60) e60 (by decide)) (byteNot (d := 62) e62 (by decide)) (byteNot (d := 33) e33 (by decide)) hmo])
  go_enter Tryz.func67, Tryz.ntmps67
  have k0 := HG.out.c0; have k1 := HG.out.c1; have k2 := HG.out.c2; have k3 := HG.out.c3; have k4 := HG.out.c4; have k5 := HG.out.c5; have k6 := HG.out.c6
  have l0 := HG.out.fr 0; have l1 := HG.out.fr 1; have l2 := HG.out.fr 2; have l3 := HG.out.fr 3; have l4 := HG.out.fr 4; have l5 := HG.out.fr 5; have l6 := HG.out.fr 6
  go_wp2_with (first
    | (go_at_call 97; with_reducible refine (rsmall5_calls _ _).mono ?_; rintro e w' ⟨rfl, rfl⟩; first | rw [hsm] | rw [hsm'])
    | (go_at_call 98; with_reducible refine (rbig5_calls _ _).mono ?_; rintro e w' ⟨rfl, rfl⟩; first | rw [hbg] | rw [hbg'])
    | (go_at_call 100; with_reducible refine (rfig5_calls _ _).mono ?_; rintro e w' ⟨rfl, rfl⟩; first | rw [hfg] | rw [hfg'] | rw [hfn] | rw [show figI 0 = false from rfl]))
  refine bodyPost_ret (v := .agg #[.int .i64 0, .string ⟨#[]⟩, .int .i64 0, .bool false, .int .i64 0, .int .i64 0, .int .i64 2]) (by simp [results, Tryz.results67, go_sem]) rfl ⟨(Below.refl w.heap.size w).alloc (Nat.le_refl _) _, ?_⟩
  rw [HQ.out]
  rfl
set_option maxRecDepth 100000 in
set_option maxHeartbeats 16000000 in
theorem rone_44_n (s : ByteArray) (a : Nat) (w : World) (ha : a < s.size) (hs : s.size ≤ 65536) (hn : ¬ a + 1 < s.size) (hc : (s[a]'ha) = 44) :
    Calls Tryz.prog 67 #[.string s, .int .i64 (a : Int)] w fun e w' => Below w.heap.size w w' ∧ e = .returned (gotV s.size (oneL (s[a]'ha) (s.data.toList.drop (a + 1)))) := by
  have HG := Lib.hid (IsGot.new (v0 := .int .i64 0) (v1 := .string ⟨#[]⟩) (v2 := .int .i64 0) (v3 := .bool false) (v4 := .int .i64 0) (v5 := .int .i64 0) (v6 := .int .i64 0) w)
  have HB := Lib.hid ((Below.refl w.heap.size w).alloc (Nat.le_refl _) (.cells #[.int .i64 0, .string ⟨#[]⟩, .int .i64 0, .bool false, .int .i64 0, .int .i64 0, .int .i64 0] 115))
  have hnd : decide ((a : Int) + 1 < (s.size : Int)) = false := decide_eq_false (by omega)
  have hsm : sml ((s[a]'ha).toNat : Int) = false := by rw [hc]; rfl
  have hbg : bgI ((s[a]'ha).toNat : Int) = false := by rw [hc]; rfl
  have hfg : figI ((s[a]'ha).toNat : Int) = false := by rw [hc]; rfl
  have hcv : ((s[a]'ha).toNat : Int) = 44 := by rw [hc]; rfl
  have hsm' : sml 44 = false := rfl
  have hbg' : bgI 44 = false := rfl
  have hfg' : figI 44 = false := rfl
  have HM := Lib.hid (show markTwo (44 :: s.data.toList.drop (a + 1)) = false from by simp [markTwo, List.isPrefixOf])
  go_enter Tryz.func67, Tryz.ntmps67
  have k0 := HG.out.c0; have k1 := HG.out.c1; have k2 := HG.out.c2; have k3 := HG.out.c3; have k4 := HG.out.c4; have k5 := HG.out.c5; have k6 := HG.out.c6
  have l0 := HG.out.fr 0; have l1 := HG.out.fr 1; have l2 := HG.out.fr 2; have l3 := HG.out.fr 3; have l4 := HG.out.fr 4; have l5 := HG.out.fr 5; have l6 := HG.out.fr 6
  go_wp2_with (first
    | (go_at_call 97; with_reducible refine (rsmall5_calls _ _).mono ?_; rintro e w' ⟨rfl, rfl⟩; first | rw [hsm] | rw [hsm'])
    | (go_at_call 98; with_reducible refine (rbig5_calls _ _).mono ?_; rintro e w' ⟨rfl, rfl⟩; first | rw [hbg] | rw [hbg'])
    | (go_at_call 100; with_reducible refine (rfig5_calls _ _).mono ?_; rintro e w' ⟨rfl, rfl⟩; first | rw [hfg] | rw [hfg'] | rw [hfn] | rw [show figI 0 = false from rfl]))
  refine bodyPost_ret (v := .agg #[.int .i64 4, .string (s.extract a (a + 1)), .int .i64 0, .bool false, .int .i64 0, .int .i64 ((a : Int) + 1), .int .i64 0]) (by simp [results, Tryz.results67, go_sem]) rfl ⟨(Below.refl w.heap.size w).alloc (Nat.le_refl _) _, ?_⟩
  rw [hc, oneL_markc (by decide) (by decide) (by decide) (by decide) (by decide), markL_one 44 _ (HM.out) (by decide), ext_one ha, hc]
  show _ = Ending.returned (.agg #[.int .i64 4, .string (bs [44]), .int .i64 0, .bool false, .int .i64 0, .int .i64 ((s.size - (s.data.toList.drop (a + 1)).length : Nat) : Int), .int .i64 0])
  rw [drop_len (show a + 1 ≤ s.size by omega)]
  rfl
set_option maxRecDepth 100000 in
set_option maxHeartbeats 16000000 in
theorem rone_62one_n (s : ByteArray) (a : Nat) (w : World) (ha : a < s.size) (hs : s.size ≤ 65536) (hn : ¬ a + 1 < s.size) (hc : (s[a]'ha) = 62) :
    Calls Tryz.prog 67 #[.string s, .int .i64 (a : Int)] w fun e w' => Below w.heap.size w w' ∧ e = .returned (gotV s.size (oneL (s[a]'ha) (s.data.toList.drop (a + 1)))) := by
  have HG := Lib.hid (IsGot.new (v0 := .int .i64 0) (v1 := .string ⟨#[]⟩) (v2 := .int .i64 0) (v3 := .bool false) (v4 := .int .i64 0) (v5 := .int .i64 0) (v6 := .int .i64 0) w)
  have HB := Lib.hid ((Below.refl w.heap.size w).alloc (Nat.le_refl _) (.cells #[.int .i64 0, .string ⟨#[]⟩, .int .i64 0, .bool false, .int .i64 0, .int .i64 0, .int .i64 0] 115))
  have hnd : decide ((a : Int) + 1 < (s.size : Int)) = false := decide_eq_false (by omega)
  have hsm : sml ((s[a]'ha).toNat : Int) = false := by rw [hc]; rfl
  have hbg : bgI ((s[a]'ha).toNat : Int) = false := by rw [hc]; rfl
  have hfg : figI ((s[a]'ha).toNat : Int) = false := by rw [hc]; rfl
  have hcv : ((s[a]'ha).toNat : Int) = 62 := by rw [hc]; rfl
  have hsm' : sml 62 = false := rfl
  have hbg' : bgI 62 = false := rfl
  have hfg' : figI 62 = false := rfl
  have HM := Lib.hid (show markTwo (62 :: s.data.toList.drop (a + 1)) = false from by rw [drop_end (by omega)]; simp [markTwo, List.isPrefixOf])
  go_enter Tryz.func67, Tryz.ntmps67
  have k0 := HG.out.c0; have k1 := HG.out.c1; have k2 := HG.out.c2; have k3 := HG.out.c3; have k4 := HG.out.c4; have k5 := HG.out.c5; have k6 := HG.out.c6
  have l0 := HG.out.fr 0; have l1 := HG.out.fr 1; have l2 := HG.out.fr 2; have l3 := HG.out.fr 3; have l4 := HG.out.fr 4; have l5 := HG.out.fr 5; have l6 := HG.out.fr 6
  go_wp2_with (first
    | (go_at_call 97; with_reducible refine (rsmall5_calls _ _).mono ?_; rintro e w' ⟨rfl, rfl⟩; first | rw [hsm] | rw [hsm'])
    | (go_at_call 98; with_reducible refine (rbig5_calls _ _).mono ?_; rintro e w' ⟨rfl, rfl⟩; first | rw [hbg] | rw [hbg'])
    | (go_at_call 100; with_reducible refine (rfig5_calls _ _).mono ?_; rintro e w' ⟨rfl, rfl⟩; first | rw [hfg] | rw [hfg'] | rw [hfn] | rw [show figI 0 = false from rfl]))
  refine bodyPost_ret (v := .agg #[.int .i64 4, .string (s.extract a (a + 1)), .int .i64 0, .bool false, .int .i64 0, .int .i64 ((a : Int) + 1), .int .i64 0]) (by simp [results, Tryz.results67, go_sem]) rfl ⟨(Below.refl w.heap.size w).alloc (Nat.le_refl _) _, ?_⟩
  rw [hc, oneL_markc (by decide) (by decide) (by decide) (by decide) (by decide), markL_one 62 _ (HM.out) (by decide), ext_one ha, hc]
  show _ = Ending.returned (.agg #[.int .i64 4, .string (bs [62]), .int .i64 0, .bool false, .int .i64 0, .int .i64 ((s.size - (s.data.toList.drop (a + 1)).length : Nat) : Int), .int .i64 0])
  rw [drop_len (show a + 1 ≤ s.size by omega)]
  rfl
end Go.Proofs.YtminbdcabacfbaaGreatDoor.V

namespace Go.Proofs.YtminbdcabacfbaaGreatDoor.V
set_option linter.unusedVariables false
set_option linter.unusedSimpArgs false
open Go.RowKit

set_option maxRecDepth 100000 in
set_option maxHeartbeats 16000000 in
theorem rone_big_y (s : ByteArray) (a : Nat) (w : World) (ha : a < s.size) (hs : s.size ≤ 65536) (hn : a + 1 < s.size) (hsm : sml ((s[a]'ha).toNat : Int) = false) (hbg : bgI ((s[a]'ha).toNat : Int) = true) :
    Calls Tryz.prog 67 #[.string s, .int .i64 (a : Int)] w fun e w' => Below w.heap.size w w' ∧ e = .returned (gotV s.size (oneL (s[a]'ha) (s.data.toList.drop (a + 1)))) := by
  have HG := Lib.hid (IsGot.new (v0 := .int .i64 0) (v1 := .string ⟨#[]⟩) (v2 := .int .i64 0) (v3 := .bool false) (v4 := .int .i64 0) (v5 := .int .i64 0) (v6 := .int .i64 0) w)
  have HB := Lib.hid ((Below.refl w.heap.size w).alloc (Nat.le_refl _) (.cells #[.int .i64 0, .string ⟨#[]⟩, .int .i64 0, .bool false, .int .i64 0, .int .i64 0, .int .i64 0] 115))
  have hnd : decide ((a : Int) + 1 < (s.size : Int)) = true := decide_eq_true (by omega)
  have HQ := Lib.hid (show oneL (s[a]'ha) (s.data.toList.drop (a + 1)) = if 32 < runB wrdI s a - a then .bad 4 else .tok ⟨2, (s.data.toList.drop a).takeWhile (ofB wrdI), 0, false⟩ (s.data.toList.drop (runB wrdI s a)) from by
    rw [oneL_big hsm hbg, ← drop_at ha]
    unfold namedL
    rw [runB_drop, show runB wrdI s a - a = ((s.data.toList.drop a).takeWhile (ofB wrdI)).length by unfold runB; omega])
  obtain ⟨T, hT⟩ : ∃ T, runB wrdI s a = T := ⟨_, rfl⟩
  have hTl := runB_le (P := wrdI) (s := s) (a := a) (by omega)
  have HX := Lib.hid (bs_of (runB_take wrdI s a))
  rw [hT] at hTl HQ HX
  have HTL := Lib.hid hTl
  have HT := Lib.hid hT
  clear hT hTl
  have hw0g : ∃ w0, w.alloc (.cells #[.int .i64 0, .string ⟨#[]⟩, .int .i64 0, .bool false, .int .i64 0, .int .i64 0, .int .i64 0] 115) = w0 := ⟨_, rfl⟩
  go_enter Tryz.func67, Tryz.ntmps67
  have k0 := HG.out.c0; have k1 := HG.out.c1; have k2 := HG.out.c2; have k3 := HG.out.c3; have k4 := HG.out.c4; have k5 := HG.out.c5; have k6 := HG.out.c6
  have l0 := HG.out.fr 0; have l1 := HG.out.fr 1; have l2 := HG.out.fr 2; have l3 := HG.out.fr 3; have l4 := HG.out.fr 4; have l5 := HG.out.fr 5; have l6 := HG.out.fr 6
  go_wp2_with (first
    | (go_at_call 97; with_reducible refine (rsmall5_calls _ _).mono ?_; rintro e w' ⟨rfl, rfl⟩; first | rw [hsm] | rw [hsm'])
    | (go_at_call 98; with_reducible refine (rbig5_calls _ _).mono ?_; rintro e w' ⟨rfl, rfl⟩; first | rw [hbg] | rw [hbg'])
    | (go_at_call 100; with_reducible refine (rfig5_calls _ _).mono ?_; rintro e w' ⟨rfl, rfl⟩; first | rw [hfg] | rw [hfg'] | rw [hfn] | rw [show figI 0 = false from rfl]))
  obtain ⟨w0, hw0⟩ := hw0g
  rw [hw0] at HG HB k0 k1 k2 k3 k4 k5 k6 l0 l1 l2 l3 l4 l5 l6 ⊢
  go_loopw [7] (fun i wr => ∃ k : Nat, a ≤ k ∧ k ≤ s.size ∧ i = .int .i64 (k : Int) ∧ runB wrdI s k = T ∧ w0 = wr) (fun i _ => s.size + 1 - (intOf i).toNat)
  case atStart => exact ⟨a, Nat.le_refl _, Nat.le_of_lt ha, rfl, HT.out, rfl⟩
  case round =>
    obtain ⟨k, hak, hk, rfl, hr, rfl⟩ := hrel
    cases hm : moreB wrdI s k with
    | true =>
      obtain ⟨hkl, hr2⟩ := runB_more hm
      have hd : decide ((k : Int) < (s.size : Int)) = true := decide_eq_true (by omega)
      have hwd : wrdI ((s[k]'hkl).toNat : Int) = true := ofB_at hm hkl
      have HR := Lib.hid (hr2.trans hr)
      clear hr hr2 hm
      go_wp2_with (go_at_call 99; with_reducible refine (rword5_calls _ _).mono ?_; rintro e w' ⟨rfl, rfl⟩; rw [hwd])
      go_roundw
      case rel => exact ⟨k + 1, by omega, hkl, by simp, HR.out, trivial⟩
      case measure => simp [intOf]; omega
    | false =>
      have hkT : k = T := by rw [← hr, runB_stop hm]
      subst hkT
      by_cases hkl : k < s.size
      · have hd : decide ((k : Int) < (s.size : Int)) = true := decide_eq_true (by omega)
        have hwd : wrdI ((s[k]'hkl).toNat : Int) = false := ofB_no hm hkl
        clear hr hm
        by_cases h32 : 32 < k - a
        · have hd32 : decide ((32 : Int) < (k : Int) - (a : Int)) = true := decide_eq_true (by omega)
          go_wp2_with (first
            | (go_at_call 97; with_reducible refine (rsmall5_calls _ _).mono ?_; rintro e w' ⟨rfl, rfl⟩; first | rw [hsm] | rw [hsm'])
            | (go_at_call 98; with_reducible refine (rbig5_calls _ _).mono ?_; rintro e w' ⟨rfl, rfl⟩; first | rw [hbg] | rw [hbg'])
            | (go_at_call 100; with_reducible refine (rfig5_calls _ _).mono ?_; rintro e w' ⟨rfl, rfl⟩; first | rw [hfg] | rw [hfg'] | rw [hfn] | rw [show figI 0 = false from rfl])
            | (go_at_call 99; with_reducible refine (rword5_calls _ _).mono ?_; rintro e w' ⟨rfl, rfl⟩; rw [hwd]))
          have hset := HG.out.set (.int .i64 0) (.string ⟨#[]⟩) (.int .i64 0) (.bool false) (.int .i64 0) (.int .i64 0) (.int .i64 4)
          have r0 := hset.c0
          have r1 := hset.c1
          have r2 := hset.c2
          have r3 := hset.c3
          have r4 := hset.c4
          have r5 := hset.c5
          have r6 := hset.c6
          refine bodyPost_ret (v := .agg #[.int .i64 0, .string ⟨#[]⟩, .int .i64 0, .bool false, .int .i64 0, .int .i64 0, .int .i64 4]) (by simp [results, Tryz.results67, go_sem, r0, r1, r2, r3, r4, r5, r6]) rfl ⟨below_gotSet HB.out (Nat.le_refl _) _ _ _ _ _ _ _, ?_⟩
          rw [HQ.out, if_pos h32]
          rfl
        · have hd32 : decide ((32 : Int) < (k : Int) - (a : Int)) = false := decide_eq_false (by omega)
          have hka : a ≤ k := HTL.out.1
          go_wp2_with (first
            | (go_at_call 97; with_reducible refine (rsmall5_calls _ _).mono ?_; rintro e w' ⟨rfl, rfl⟩; first | rw [hsm] | rw [hsm'])
            | (go_at_call 98; with_reducible refine (rbig5_calls _ _).mono ?_; rintro e w' ⟨rfl, rfl⟩; first | rw [hbg] | rw [hbg'])
            | (go_at_call 100; with_reducible refine (rfig5_calls _ _).mono ?_; rintro e w' ⟨rfl, rfl⟩; first | rw [hfg] | rw [hfg'] | rw [hfn] | rw [show figI 0 = false from rfl])
            | (go_at_call 99; with_reducible refine (rword5_calls _ _).mono ?_; rintro e w' ⟨rfl, rfl⟩; rw [hwd]))
          have hset := HG.out.set (.int .i64 2) (.string (s.extract a k)) (.int .i64 0) (.bool false) (.int .i64 0) (.int .i64 ((k : Int))) (.int .i64 0)
          have r0 := hset.c0
          have r1 := hset.c1
          have r2 := hset.c2
          have r3 := hset.c3
          have r4 := hset.c4
          have r5 := hset.c5
          have r6 := hset.c6
          refine bodyPost_ret (v := .agg #[.int .i64 2, .string (s.extract a k), .int .i64 0, .bool false, .int .i64 0, .int .i64 ((k : Int)), .int .i64 0]) (by simp [results, Tryz.results67, go_sem, r0, r1, r2, r3, r4, r5, r6]) rfl ⟨below_gotSet HB.out (Nat.le_refl _) _ _ _ _ _ _ _, ?_⟩
          rw [HQ.out, if_neg h32]
          show _ = Ending.returned (.agg #[.int .i64 2, .string (bs ((s.data.toList.drop a).takeWhile (ofB wrdI))), .int .i64 0, .bool false, .int .i64 0, .int .i64 ((s.size - (s.data.toList.drop k).length : Nat) : Int), .int .i64 0])
          rw [HX.out, drop_len HTL.out.2]
      · have hd : decide ((k : Int) < (s.size : Int)) = false := decide_eq_false (by omega)
        clear hr hm
        by_cases h32 : 32 < k - a
        · have hd32 : decide ((32 : Int) < (k : Int) - (a : Int)) = true := decide_eq_true (by omega)
          go_wp2_with (first
            | (go_at_call 97; with_reducible refine (rsmall5_calls _ _).mono ?_; rintro e w' ⟨rfl, rfl⟩; first | rw [hsm] | rw [hsm'])
            | (go_at_call 98; with_reducible refine (rbig5_calls _ _).mono ?_; rintro e w' ⟨rfl, rfl⟩; first | rw [hbg] | rw [hbg'])
            | (go_at_call 100; with_reducible refine (rfig5_calls _ _).mono ?_; rintro e w' ⟨rfl, rfl⟩; first | rw [hfg] | rw [hfg'] | rw [hfn] | rw [show figI 0 = false from rfl]))
          have hset := HG.out.set (.int .i64 0) (.string ⟨#[]⟩) (.int .i64 0) (.bool false) (.int .i64 0) (.int .i64 0) (.int .i64 4)
          have r0 := hset.c0
          have r1 := hset.c1
          have r2 := hset.c2
          have r3 := hset.c3
          have r4 := hset.c4
          have r5 := hset.c5
          have r6 := hset.c6
          refine bodyPost_ret (v := .agg #[.int .i64 0, .string ⟨#[]⟩, .int .i64 0, .bool false, .int .i64 0, .int .i64 0, .int .i64 4]) (by simp [results, Tryz.results67, go_sem, r0, r1, r2, r3, r4, r5, r6]) rfl ⟨below_gotSet HB.out (Nat.le_refl _) _ _ _ _ _ _ _, ?_⟩
          rw [HQ.out, if_pos h32]
          rfl
        · have hd32 : decide ((32 : Int) < (k : Int) - (a : Int)) = false := decide_eq_false (by omega)
          have hka : a ≤ k := HTL.out.1
          go_wp2_with (first
            | (go_at_call 97; with_reducible refine (rsmall5_calls _ _).mono ?_; rintro e w' ⟨rfl, rfl⟩; first | rw [hsm] | rw [hsm'])
            | (go_at_call 98; with_reducible refine (rbig5_calls _ _).mono ?_; rintro e w' ⟨rfl, rfl⟩; first | rw [hbg] | rw [hbg'])
            | (go_at_call 100; with_reducible refine (rfig5_calls _ _).mono ?_; rintro e w' ⟨rfl, rfl⟩; first | rw [hfg] | rw [hfg'] | rw [hfn] | rw [show figI 0 = false from rfl]))
          have hset := HG.out.set (.int .i64 2) (.string (s.extract a k)) (.int .i64 0) (.bool false) (.int .i64 0) (.int .i64 ((k : Int))) (.int .i64 0)
          have r0 := hset.c0
          have r1 := hset.c1
          have r2 := hset.c2
          have r3 := hset.c3
          have r4 := hset.c4
          have r5 := hset.c5
          have r6 := hset.c6
          refine bodyPost_ret (v := .agg #[.int .i64 2, .string (s.extract a k), .int .i64 0, .bool false, .int .i64 0, .int .i64 ((k : Int)), .int .i64 0]) (by simp [results, Tryz.results67, go_sem, r0, r1, r2, r3, r4, r5, r6]) rfl ⟨below_gotSet HB.out (Nat.le_refl _) _ _ _ _ _ _ _, ?_⟩
          rw [HQ.out, if_neg h32]
          show _ = Ending.returned (.agg #[.int .i64 2, .string (bs ((s.data.toList.drop a).takeWhile (ofB wrdI))), .int .i64 0, .bool false, .int .i64 0, .int .i64 ((s.size - (s.data.toList.drop k).length : Nat) : Int), .int .i64 0])
          rw [HX.out, drop_len HTL.out.2]
set_option maxRecDepth 100000 in
set_option maxHeartbeats 16000000 in
theorem rone_46_y (s : ByteArray) (a : Nat) (w : World) (ha : a < s.size) (hs : s.size ≤ 65536) (hn : a + 1 < s.size) (hc : (s[a]'ha) = 46) :
    Calls Tryz.prog 67 #[.string s, .int .i64 (a : Int)] w fun e w' => Below w.heap.size w w' ∧ e = .returned (gotV s.size (oneL (s[a]'ha) (s.data.toList.drop (a + 1)))) := by
  have HG := Lib.hid (IsGot.new (v0 := .int .i64 0) (v1 := .string ⟨#[]⟩) (v2 := .int .i64 0) (v3 := .bool false) (v4 := .int .i64 0) (v5 := .int .i64 0) (v6 := .int .i64 0) w)
  have HB := Lib.hid ((Below.refl w.heap.size w).alloc (Nat.le_refl _) (.cells #[.int .i64 0, .string ⟨#[]⟩, .int .i64 0, .bool false, .int .i64 0, .int .i64 0, .int .i64 0] 115))
  have hnd : decide ((a : Int) + 1 < (s.size : Int)) = true := decide_eq_true (by omega)
  have hsm : sml ((s[a]'ha).toNat : Int) = false := by rw [hc]; rfl
  have hbg : bgI ((s[a]'ha).toNat : Int) = false := by rw [hc]; rfl
  have hfg : figI ((s[a]'ha).toNat : Int) = false := by rw [hc]; rfl
  have hcv : ((s[a]'ha).toNat : Int) = 46 := by rw [hc]; rfl
  have hsm' : sml 46 = false := rfl
  have hbg' : bgI 46 = false := rfl
  have hfg' : figI 46 = false := rfl
  have HM := Lib.hid (show markTwo (46 :: s.data.toList.drop (a + 1)) = false from by simp [markTwo, List.isPrefixOf])
  go_enter Tryz.func67, Tryz.ntmps67
  have k0 := HG.out.c0; have k1 := HG.out.c1; have k2 := HG.out.c2; have k3 := HG.out.c3; have k4 := HG.out.c4; have k5 := HG.out.c5; have k6 := HG.out.c6
  have l0 := HG.out.fr 0; have l1 := HG.out.fr 1; have l2 := HG.out.fr 2; have l3 := HG.out.fr 3; have l4 := HG.out.fr 4; have l5 := HG.out.fr 5; have l6 := HG.out.fr 6
  go_wp2_with (first
    | (go_at_call 97; with_reducible refine (rsmall5_calls _ _).mono ?_; rintro e w' ⟨rfl, rfl⟩; first | rw [hsm] | rw [hsm'])
    | (go_at_call 98; with_reducible refine (rbig5_calls _ _).mono ?_; rintro e w' ⟨rfl, rfl⟩; first | rw [hbg] | rw [hbg'])
    | (go_at_call 100; with_reducible refine (rfig5_calls _ _).mono ?_; rintro e w' ⟨rfl, rfl⟩; first | rw [hfg] | rw [hfg'] | rw [hfn] | rw [show figI 0 = false from rfl]))
  refine bodyPost_ret (v := .agg #[.int .i64 4, .string (s.extract a (a + 1)), .int .i64 0, .bool false, .int .i64 0, .int .i64 ((a : Int) + 1), .int .i64 0]) (by simp [results, Tryz.results67, go_sem]) rfl ⟨(Below.refl w.heap.size w).alloc (Nat.le_refl _) _, ?_⟩
  rw [hc, oneL_markc (by decide) (by decide) (by decide) (by decide) (by decide), markL_one 46 _ (HM.out) (by decide), ext_one ha, hc]
  show _ = Ending.returned (.agg #[.int .i64 4, .string (bs [46]), .int .i64 0, .bool false, .int .i64 0, .int .i64 ((s.size - (s.data.toList.drop (a + 1)).length : Nat) : Int), .int .i64 0])
  rw [drop_len (show a + 1 ≤ s.size by omega)]
  rfl
set_option maxRecDepth 100000 in
set_option maxHeartbeats 16000000 in
theorem rone_60one_y (s : ByteArray) (a : Nat) (w : World) (ha : a < s.size) (hs : s.size ≤ 65536) (hn : a + 1 < s.size) (hc : (s[a]'ha) = 60) (hnx : (((s[a + 1]'hn).toNat : Int) == 61) = false) :
    Calls Tryz.prog 67 #[.string s, .int .i64 (a : Int)] w fun e w' => Below w.heap.size w w' ∧ e = .returned (gotV s.size (oneL (s[a]'ha) (s.data.toList.drop (a + 1)))) := by
  have HG := Lib.hid (IsGot.new (v0 := .int .i64 0) (v1 := .string ⟨#[]⟩) (v2 := .int .i64 0) (v3 := .bool false) (v4 := .int .i64 0) (v5 := .int .i64 0) (v6 := .int .i64 0) w)
  have HB := Lib.hid ((Below.refl w.heap.size w).alloc (Nat.le_refl _) (.cells #[.int .i64 0, .string ⟨#[]⟩, .int .i64 0, .bool false, .int .i64 0, .int .i64 0, .int .i64 0] 115))
  have hnd : decide ((a : Int) + 1 < (s.size : Int)) = true := decide_eq_true (by omega)
  have hsm : sml ((s[a]'ha).toNat : Int) = false := by rw [hc]; rfl
  have hbg : bgI ((s[a]'ha).toNat : Int) = false := by rw [hc]; rfl
  have hfg : figI ((s[a]'ha).toNat : Int) = false := by rw [hc]; rfl
  have hcv : ((s[a]'ha).toNat : Int) = 60 := by rw [hc]; rfl
  have hsm' : sml 60 = false := rfl
  have hbg' : bgI 60 = false := rfl
  have hfg' : figI 60 = false := rfl
  have HM := Lib.hid (show markTwo (60 :: s.data.toList.drop (a + 1)) = false from by rw [drop_at hn]; have h := byteNot (d := 61) hnx (by decide); simp [markTwo, List.isPrefixOf] ; simpa using fun e => by rw [← e] at h; simp at h)
  go_enter Tryz.func67, Tryz.ntmps67
  have k0 := HG.out.c0; have k1 := HG.out.c1; have k2 := HG.out.c2; have k3 := HG.out.c3; have k4 := HG.out.c4; have k5 := HG.out.c5; have k6 := HG.out.c6
  have l0 := HG.out.fr 0; have l1 := HG.out.fr 1; have l2 := HG.out.fr 2; have l3 := HG.out.fr 3; have l4 := HG.out.fr 4; have l5 := HG.out.fr 5; have l6 := HG.out.fr 6
  go_wp2_with (first
    | (go_at_call 97; with_reducible refine (rsmall5_calls _ _).mono ?_; rintro e w' ⟨rfl, rfl⟩; first | rw [hsm] | rw [hsm'])
    | (go_at_call 98; with_reducible refine (rbig5_calls _ _).mono ?_; rintro e w' ⟨rfl, rfl⟩; first | rw [hbg] | rw [hbg'])
    | (go_at_call 100; with_reducible refine (rfig5_calls _ _).mono ?_; rintro e w' ⟨rfl, rfl⟩; first | rw [hfg] | rw [hfg'] | rw [hfn] | rw [show figI 0 = false from rfl]))
  refine bodyPost_ret (v := .agg #[.int .i64 4, .string (s.extract a (a + 1)), .int .i64 0, .bool false, .int .i64 0, .int .i64 ((a : Int) + 1), .int .i64 0]) (by simp [results, Tryz.results67, go_sem]) rfl ⟨(Below.refl w.heap.size w).alloc (Nat.le_refl _) _, ?_⟩
  rw [hc, oneL_markc (by decide) (by decide) (by decide) (by decide) (by decide), markL_one 60 _ (HM.out) (by decide), ext_one ha, hc]
  show _ = Ending.returned (.agg #[.int .i64 4, .string (bs [60]), .int .i64 0, .bool false, .int .i64 0, .int .i64 ((s.size - (s.data.toList.drop (a + 1)).length : Nat) : Int), .int .i64 0])
  rw [drop_len (show a + 1 ≤ s.size by omega)]
  rfl
set_option maxRecDepth 100000 in
set_option maxHeartbeats 16000000 in
theorem rone_fig_n (s : ByteArray) (a : Nat) (w : World) (ha : a < s.size) (hs : s.size ≤ 65536) (hn : ¬ a + 1 < s.size) (hsm : sml ((s[a]'ha).toNat : Int) = false) (hbg : bgI ((s[a]'ha).toNat : Int) = false) (hfg : figI ((s[a]'ha).toNat : Int) = true) :
    Calls Tryz.prog 67 #[.string s, .int .i64 (a : Int)] w fun e w' => Below w.heap.size w w' ∧ e = .returned (gotV s.size (oneL (s[a]'ha) (s.data.toList.drop (a + 1)))) := by
  have HG := Lib.hid (IsGot.new (v0 := .int .i64 0) (v1 := .string ⟨#[]⟩) (v2 := .int .i64 0) (v3 := .bool false) (v4 := .int .i64 0) (v5 := .int .i64 0) (v6 := .int .i64 0) w)
  have HB := Lib.hid ((Below.refl w.heap.size w).alloc (Nat.le_refl _) (.cells #[.int .i64 0, .string ⟨#[]⟩, .int .i64 0, .bool false, .int .i64 0, .int .i64 0, .int .i64 0] 115))
  have hnd : decide ((a : Int) + 1 < (s.size : Int)) = false := decide_eq_false (by omega)
  obtain ⟨v0, v1, v2, v3, v4, v5, v6, hv⟩ := gotV_form s.size (numL (s[a]'ha) (s.data.toList.drop (a + 1)))
  have HV := Lib.hid hv
  have HC := Lib.hid (fun (W : World) => (show Calls Tryz.prog 101 #[.string s, .int .i64 (a : Int)] W (fun e w' => Below W.heap.size W w' ∧ e = .returned (.agg #[.int .i64 v0, .string v1, .int .i64 v2, .bool v3, .int .i64 v4, .int .i64 v5, .int .i64 v6])) from by rw [← HV.out]; exact rnum_high s a W ha hs hfg))
  clear hv
  go_enter Tryz.func67, Tryz.ntmps67
  have k0 := HG.out.c0; have k1 := HG.out.c1; have k2 := HG.out.c2; have k3 := HG.out.c3; have k4 := HG.out.c4; have k5 := HG.out.c5; have k6 := HG.out.c6
  have l0 := HG.out.fr 0; have l1 := HG.out.fr 1; have l2 := HG.out.fr 2; have l3 := HG.out.fr 3; have l4 := HG.out.fr 4; have l5 := HG.out.fr 5; have l6 := HG.out.fr 6
  go_wp2_with (first
    | (go_at_call 97; with_reducible refine (rsmall5_calls _ _).mono ?_; rintro e w' ⟨rfl, rfl⟩; first | rw [hsm] | rw [hsm'])
    | (go_at_call 98; with_reducible refine (rbig5_calls _ _).mono ?_; rintro e w' ⟨rfl, rfl⟩; first | rw [hbg] | rw [hbg'])
    | (go_at_call 100; with_reducible refine (rfig5_calls _ _).mono ?_; rintro e w' ⟨rfl, rfl⟩; first | rw [hfg] | rw [hfg'] | rw [hfn] | rw [show figI 0 = false from rfl])
    | (go_at_call 101; ((with_reducible refine (HC.out _).mono ?_); rintro e w2 ⟨hb2, rfl⟩; have hG2 := HG.out.below hb2; have g0 := hG2.c0; have g1 := hG2.c1; have g2 := hG2.c2; have g3 := hG2.c3; have g4 := hG2.c4; have g5 := hG2.c5; have g6 := hG2.c6; have m0 := hG2.fr 0; have m1 := hG2.fr 1; have m2 := hG2.fr 2; have m3 := hG2.fr 3; have m4 := hG2.fr 4; have m5 := hG2.fr 5; have m6 := hG2.fr 6; have HG2 := Lib.hid hG2; have HB2 := Lib.hid (HB.out.trans (hb2.mono HB.out.size)); clear hb2 hG2)))
  have hset := HG2.out.set (.int .i64 v0) (.string v1) (.int .i64 v2) (.bool v3) (.int .i64 v4) (.int .i64 v5) (.int .i64 v6)
  have r0 := hset.c0
  have r1 := hset.c1
  have r2 := hset.c2
  have r3 := hset.c3
  have r4 := hset.c4
  have r5 := hset.c5
  have r6 := hset.c6
  refine bodyPost_ret (v := .agg #[.int .i64 v0, .string v1, .int .i64 v2, .bool v3, .int .i64 v4, .int .i64 v5, .int .i64 v6]) (by simp [results, Tryz.results67, go_sem, r0, r1, r2, r3, r4, r5, r6]) rfl ⟨below_gotSet HB2.out (Nat.le_refl _) _ _ _ _ _ _ _, ?_⟩
  rw [oneL_fig hsm hbg hfg, HV.out]
set_option maxRecDepth 100000 in
set_option maxHeartbeats 16000000 in
theorem rone_46_n (s : ByteArray) (a : Nat) (w : World) (ha : a < s.size) (hs : s.size ≤ 65536) (hn : ¬ a + 1 < s.size) (hc : (s[a]'ha) = 46) :
    Calls Tryz.prog 67 #[.string s, .int .i64 (a : Int)] w fun e w' => Below w.heap.size w w' ∧ e = .returned (gotV s.size (oneL (s[a]'ha) (s.data.toList.drop (a + 1)))) := by
  have HG := Lib.hid (IsGot.new (v0 := .int .i64 0) (v1 := .string ⟨#[]⟩) (v2 := .int .i64 0) (v3 := .bool false) (v4 := .int .i64 0) (v5 := .int .i64 0) (v6 := .int .i64 0) w)
  have HB := Lib.hid ((Below.refl w.heap.size w).alloc (Nat.le_refl _) (.cells #[.int .i64 0, .string ⟨#[]⟩, .int .i64 0, .bool false, .int .i64 0, .int .i64 0, .int .i64 0] 115))
  have hnd : decide ((a : Int) + 1 < (s.size : Int)) = false := decide_eq_false (by omega)
  have hsm : sml ((s[a]'ha).toNat : Int) = false := by rw [hc]; rfl
  have hbg : bgI ((s[a]'ha).toNat : Int) = false := by rw [hc]; rfl
  have hfg : figI ((s[a]'ha).toNat : Int) = false := by rw [hc]; rfl
  have hcv : ((s[a]'ha).toNat : Int) = 46 := by rw [hc]; rfl
  have hsm' : sml 46 = false := rfl
  have hbg' : bgI 46 = false := rfl
  have hfg' : figI 46 = false := rfl
  have HM := Lib.hid (show markTwo (46 :: s.data.toList.drop (a + 1)) = false from by simp [markTwo, List.isPrefixOf])
  go_enter Tryz.func67, Tryz.ntmps67
  have k0 := HG.out.c0; have k1 := HG.out.c1; have k2 := HG.out.c2; have k3 := HG.out.c3; have k4 := HG.out.c4; have k5 := HG.out.c5; have k6 := HG.out.c6
  have l0 := HG.out.fr 0; have l1 := HG.out.fr 1; have l2 := HG.out.fr 2; have l3 := HG.out.fr 3; have l4 := HG.out.fr 4; have l5 := HG.out.fr 5; have l6 := HG.out.fr 6
  go_wp2_with (first
    | (go_at_call 97; with_reducible refine (rsmall5_calls _ _).mono ?_; rintro e w' ⟨rfl, rfl⟩; first | rw [hsm] | rw [hsm'])
    | (go_at_call 98; with_reducible refine (rbig5_calls _ _).mono ?_; rintro e w' ⟨rfl, rfl⟩; first | rw [hbg] | rw [hbg'])
    | (go_at_call 100; with_reducible refine (rfig5_calls _ _).mono ?_; rintro e w' ⟨rfl, rfl⟩; first | rw [hfg] | rw [hfg'] | rw [hfn] | rw [show figI 0 = false from rfl]))
  refine bodyPost_ret (v := .agg #[.int .i64 4, .string (s.extract a (a + 1)), .int .i64 0, .bool false, .int .i64 0, .int .i64 ((a : Int) + 1), .int .i64 0]) (by simp [results, Tryz.results67, go_sem]) rfl ⟨(Below.refl w.heap.size w).alloc (Nat.le_refl _) _, ?_⟩
  rw [hc, oneL_markc (by decide) (by decide) (by decide) (by decide) (by decide), markL_one 46 _ (HM.out) (by decide), ext_one ha, hc]
  show _ = Ending.returned (.agg #[.int .i64 4, .string (bs [46]), .int .i64 0, .bool false, .int .i64 0, .int .i64 ((s.size - (s.data.toList.drop (a + 1)).length : Nat) : Int), .int .i64 0])
  rw [drop_len (show a + 1 ≤ s.size by omega)]
  rfl
set_option maxRecDepth 100000 in
set_option maxHeartbeats 16000000 in
theorem rone_33one_n (s : ByteArray) (a : Nat) (w : World) (ha : a < s.size) (hs : s.size ≤ 65536) (hn : ¬ a + 1 < s.size) (hc : (s[a]'ha) = 33) :
    Calls Tryz.prog 67 #[.string s, .int .i64 (a : Int)] w fun e w' => Below w.heap.size w w' ∧ e = .returned (gotV s.size (oneL (s[a]'ha) (s.data.toList.drop (a + 1)))) := by
  have HG := Lib.hid (IsGot.new (v0 := .int .i64 0) (v1 := .string ⟨#[]⟩) (v2 := .int .i64 0) (v3 := .bool false) (v4 := .int .i64 0) (v5 := .int .i64 0) (v6 := .int .i64 0) w)
  have HB := Lib.hid ((Below.refl w.heap.size w).alloc (Nat.le_refl _) (.cells #[.int .i64 0, .string ⟨#[]⟩, .int .i64 0, .bool false, .int .i64 0, .int .i64 0, .int .i64 0] 115))
  have hnd : decide ((a : Int) + 1 < (s.size : Int)) = false := decide_eq_false (by omega)
  have hsm : sml ((s[a]'ha).toNat : Int) = false := by rw [hc]; rfl
  have hbg : bgI ((s[a]'ha).toNat : Int) = false := by rw [hc]; rfl
  have hfg : figI ((s[a]'ha).toNat : Int) = false := by rw [hc]; rfl
  have hcv : ((s[a]'ha).toNat : Int) = 33 := by rw [hc]; rfl
  have hsm' : sml 33 = false := rfl
  have hbg' : bgI 33 = false := rfl
  have hfg' : figI 33 = false := rfl
  have HM := Lib.hid (show markTwo (33 :: s.data.toList.drop (a + 1)) = false from by rw [drop_end (by omega)]; simp [markTwo, List.isPrefixOf])
  go_enter Tryz.func67, Tryz.ntmps67
  have k0 := HG.out.c0; have k1 := HG.out.c1; have k2 := HG.out.c2; have k3 := HG.out.c3; have k4 := HG.out.c4; have k5 := HG.out.c5; have k6 := HG.out.c6
  have l0 := HG.out.fr 0; have l1 := HG.out.fr 1; have l2 := HG.out.fr 2; have l3 := HG.out.fr 3; have l4 := HG.out.fr 4; have l5 := HG.out.fr 5; have l6 := HG.out.fr 6
  go_wp2_with (first
    | (go_at_call 97; with_reducible refine (rsmall5_calls _ _).mono ?_; rintro e w' ⟨rfl, rfl⟩; first | rw [hsm] | rw [hsm'])
    | (go_at_call 98; with_reducible refine (rbig5_calls _ _).mono ?_; rintro e w' ⟨rfl, rfl⟩; first | rw [hbg] | rw [hbg'])
    | (go_at_call 100; with_reducible refine (rfig5_calls _ _).mono ?_; rintro e w' ⟨rfl, rfl⟩; first | rw [hfg] | rw [hfg'] | rw [hfn] | rw [show figI 0 = false from rfl]))
  refine bodyPost_ret (v := .agg #[.int .i64 0, .string ⟨#[]⟩, .int .i64 0, .bool false, .int .i64 0, .int .i64 0, .int .i64 2]) (by simp [results, Tryz.results67, go_sem]) rfl ⟨(Below.refl w.heap.size w).alloc (Nat.le_refl _) _, ?_⟩
  rw [hc, oneL_markc (by decide) (by decide) (by decide) (by decide) (by decide), markL_none 33 _ HM.out (by decide)]
  rfl
end Go.Proofs.YtminbdcabacfbaaGreatDoor.V
