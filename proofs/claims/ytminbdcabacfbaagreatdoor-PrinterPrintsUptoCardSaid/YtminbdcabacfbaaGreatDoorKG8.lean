/- (*parser).literal: a comparison (op). (*parser).literal, whatever comes. (*parser).clause$1: a body's literal is appended. What a program is in memory; (*parser).declares. -/
import Derived.Test.YtminbdcabacfbaaGreatDoorKG7
namespace Go.Proofs.YtminbdcabacfbaaGreatDoor.V
set_option linter.unusedVariables false
set_option linter.unusedSimpArgs false
open Go.RowKit

set_option maxRecDepth 100000 in
set_option maxHeartbeats 16000000 in
theorem lit_op {P : Nat} {L : List TP} {N : Nat} {A : Option Addr} {c : Nat} {nx : Nat} (w : World) (hnx : nx ≤ L.length) (hS : PS P L N nx 0 0 A c w) (hmax : ∀ p ∈ L, p.1.s.length ≤ 65536) (K : Int) (k : Nat) (s : List UInt8) (n : Int) (q : Bool) (a : Nat) (hp : pk N (L.drop nx) 0 = (⟨k, s, n, q⟩, a)) (hK : (k : Int) = K) (h1 : (K == 1) = true) (hq : q = false) (hs : ((bs s).toList == [110, 111, 116]) = false) (ho : isO N (L.drop nx) 1 = true) :
    Calls Tryz.prog 88 #[.pointer (some ⟨P, 0, none⟩)] w fun e w' => w.grownBy w' (some P) ∧ ∃ x v, e = .returned (.agg (litC x v).toArray) ∧ TermsAt w.heap.size w' x.a.a v ∧ PGot P L N A c 65700 (litP N (L.drop nx)) (fun y => y = x) w' := by
  have HK := Lib.hid hK
  have HP := Lib.hid hp
  have HLT := Lib.hid hS.lt
  have HN := Lib.hid hS.n
  have HNX := Lib.hid hnx
  have HMAX := Lib.hid hmax
  have HS := Lib.hid (fun W (hb : Below w.heap.size w W) => hS.below hb)
  have HX := Lib.hid (show nx + 1 ≤ 1000000 by have := hS.n; omega)
  have HR0 := Lib.hid (show (w.alloc (.cells #[.int .i64 0, .string ⟨#[]⟩, .slice none 0 0, .string ⟨#[]⟩, .bool false, .string ⟨#[]⟩, .bool false, .string ⟨#[]⟩, .int .i64 0, .bool false, .string ⟨#[]⟩, .bool false, .string ⟨#[]⟩, .int .i64 0] 47)).heap[w.heap.size]? = some (.cells #[.int .i64 0, .string ⟨#[]⟩, .slice none 0 0, .string ⟨#[]⟩, .bool false, .string ⟨#[]⟩, .bool false, .string ⟨#[]⟩, .int .i64 0, .bool false, .string ⟨#[]⟩, .bool false, .string ⟨#[]⟩, .int .i64 0] 47 (0, 0)) from heap_alloc_new w _)
  clear hS hnx hmax hK
  subst hq
  have HNOT := Lib.hid (show (s == notL) = false by rw [← bs_list s]; exact hs)
  have HO1 := Lib.hid ho
  obtain rfl : K = 1 := by simpa using h1
  clear h1 ho
  cases ht : termP N (L.drop nx) with
  | bad a0 e0 =>
    have HO := Lib.hid ht
    have HG0 := Lib.hid (show litP N (L.drop nx) = .bad a0 e0 by
      unfold litP
      rw [hp]
      simp only [HNOT.out, HO1.out, Bool.not_true, Bool.and_false, Bool.false_eq_true, if_false]
      rw [ht])
    clear hp ht
    go_enter Tryz.func88, Tryz.ntmps88
    go_wp2_with (first
      | (go_at_call 36; ((with_reducible refine (peekK0_calls 1 k s n false a _ (HS.out _ ((Below.refl _ _).alloc (Nat.le_refl _) _)) HP.out HK.out).mono ?_); rintro e w1 ⟨rfl, hb1⟩; have HG1 := Lib.hid (grown_trans (World.grownBy_alloc w (.cells #[.int .i64 0, .string ⟨#[]⟩, .slice none 0 0, .string ⟨#[]⟩, .bool false, .string ⟨#[]⟩, .bool false, .string ⟨#[]⟩, .int .i64 0, .bool false, .string ⟨#[]⟩, .bool false, .string ⟨#[]⟩, .int .i64 0] 47) (some P)) (grown_below hb1 (some P))); have HR1 := Lib.hid (blk_keep (blk_keep HR0.out (grown_below hb1 none) (by simp)) (World.grownBy_alloc w1 (.cells #[.int .i64 1, .string (bs s), .int .i64 n, .bool false, .int .i64 (a : Int)] 71) none) (by simp)); have HS1 := Lib.hid (HS.out _ (below_then' (below_then' ((Below.refl w.heap.size w).alloc (Nat.le_refl _) _) hb1 (Nat.le_refl _)) ((Below.refl w1.heap.size w1).alloc (Nat.le_refl _) (.cells #[.int .i64 1, .string (bs s), .int .i64 n, .bool false, .int .i64 (a : Int)] 71)) (Nat.le_refl _)));  clear hb1))
      | (go_at_call 115; ((with_reducible refine (operates1_calls true _ HS1.out HO1.out).mono ?_); rintro e w2 ⟨rfl, hb2⟩; have HS2 := Lib.hid (HS1.out.below hb2); have HG2 := Lib.hid (grown_trans HG1.out (grown_trans (World.grownBy_alloc w1 (.cells #[.int .i64 1, .string (bs s), .int .i64 n, .bool false, .int .i64 (a : Int)] 71) (some P)) (grown_below hb2 (some P)))); have HR2 := Lib.hid (blk_keep HR1.out (grown_below hb2 none) (by simp)); clear hb2))
      | (go_at_call 64; ((with_reducible refine (term_calls _ (po_mk HNX.out HS2.out)).mono ?_); rintro e w3 ⟨hg3, xl, rfl, hgot⟩; rw [HO.out] at hgot; obtain ⟨he0, nx1, hnx1, hS1⟩ := hgot; unfold termA; have HLT3 := Lib.hid (show P < w3.heap.size from hS1.lt); have HSZ := Lib.hid (show w.heap.size < w3.heap.size by have h1 := (Array.getElem?_eq_some_iff.1 HR2.out).1; have h2 := hg3.size; omega); have HS3 := Lib.hid (hS1.below ((Below.refl w3.heap.size w3).alloc (Nat.le_refl _) (.cells #[.int .i64 3, .string ⟨#[]⟩, .slice none 0 0, .string ⟨#[]⟩, .bool xl.v, .string (bs xl.x), .bool xl.s, .string (bs xl.t), .int .i64 xl.n, .bool false, .string ⟨#[]⟩, .bool false, .string ⟨#[]⟩, .int .i64 0] 47))); have HL3 := Lib.hid (heap_alloc_new w3 (.cells #[.int .i64 3, .string ⟨#[]⟩, .slice none 0 0, .string ⟨#[]⟩, .bool xl.v, .string (bs xl.x), .bool xl.s, .string (bs xl.t), .int .i64 xl.n, .bool false, .string ⟨#[]⟩, .bool false, .string ⟨#[]⟩, .int .i64 0] 47)); have HR3 := Lib.hid (blk_keep (blk_keep HR2.out hg3 (by have := HLT.out; simp; omega)) (World.grownBy_alloc w3 (.cells #[.int .i64 3, .string ⟨#[]⟩, .slice none 0 0, .string ⟨#[]⟩, .bool xl.v, .string (bs xl.x), .bool xl.s, .string (bs xl.t), .int .i64 xl.n, .bool false, .string ⟨#[]⟩, .bool false, .string ⟨#[]⟩, .int .i64 0] 47) none) (by simp)); have HG3 := Lib.hid (grown_trans HG2.out (grown_trans hg3 (World.grownBy_alloc w3 (.cells #[.int .i64 3, .string ⟨#[]⟩, .slice none 0 0, .string ⟨#[]⟩, .bool xl.v, .string (bs xl.x), .bool xl.s, .string (bs xl.t), .int .i64 xl.n, .bool false, .string ⟨#[]⟩, .bool false, .string ⟨#[]⟩, .int .i64 0] 47) _))); have HE0 := Lib.hid he0; have HNX1 := Lib.hid hnx1; clear he0 hnx1 hg3 hS1; refine RowKit.Hid.out ?_)))
    refine Lib.hid ?_
    obtain ⟨⟨⟨k2, s2, n2, q2⟩, a2⟩, hp2⟩ : ∃ p, pk N (L.drop nx1) 0 = p := ⟨_, rfl⟩
    have HP2 := Lib.hid hp2
    have HX2 := Lib.hid (show nx1 + 1 ≤ 1000000 by have := HNX1.out; omega)
    have HBB := Lib.hid (show ((e0 : Int) == 0) = false by have := HE0.out; simp; omega)
    clear hp2
    cases hop : isO N (L.drop nx1) 0 with
    | true =>
      have HO0 := Lib.hid hop
      clear hop
      go_wp2_with (first
        | (go_at_call 115; ((with_reducible refine (operates0_calls true _ HS3.out HO0.out).mono ?_); rintro e w4 ⟨rfl, hb4⟩; have HS4 := Lib.hid (HS3.out.below hb4); have HL4 := Lib.hid (blk_keep HL3.out (grown_below hb4 none) (by simp)); have HR4 := Lib.hid (blk_keep HR3.out (grown_below hb4 none) (by simp)); have HG4 := Lib.hid (grown_trans HG3.out (grown_below hb4 (some P))); clear hb4))
        | (go_at_call 61; ((with_reducible refine (takeA_calls _ k2 s2 n2 q2 a2 _ HS4.out HX2.out HP2.out rfl).mono ?_); rintro e w7 ⟨rfl, hs7, hg7⟩; have HL7 := Lib.hid (blk_keep HL4.out hg7 (by have := HLT3.out; simp; omega)); have HR7 := Lib.hid (blk_keep HR4.out hg7 (by have := HLT.out; simp; omega)); have HG7 := Lib.hid (grown_trans HG4.out hg7); have hfld := fun u => field_tok (k2 : Int) (bs s2) n2 q2 (a2 : Int) u; have p_3 := cell_of_row w7 w3.heap.size 3 _ _ _ HL7.out; have yp_3 := frozen_of_row w7 w3.heap.size 3 _ _ HL7.out; have HS8 := Lib.hid (hs7.step (grown_set (World.grownBy.refl w7 (some w3.heap.size)) 3 (.string (bs s2))) (fun k hk => by cases hk; exact ⟨by have := HLT3.out; omega, _, _, _, HL7.out, by decide⟩)); have HL8 := Lib.hid (set_at (i := 3) (cs' := #[.int .i64 3, .string ⟨#[]⟩, .slice none 0 0, .string (bs s2), .bool xl.v, .string (bs xl.x), .bool xl.s, .string (bs xl.t), .int .i64 xl.n, .bool false, .string ⟨#[]⟩, .bool false, .string ⟨#[]⟩, .int .i64 0]) HL7.out (.string (bs s2)) rfl); have HR8 := Lib.hid (blk_keep HR7.out (grown_set (World.grownBy.refl w7 (some w3.heap.size)) 3 (.string (bs s2))) (by have := HSZ.out; simp; omega)); have HG8 := Lib.hid (grown_setNew (T := w3.heap.size) HG7.out (by have := HSZ.out; omega) 3 (.string (bs s2))); have l_0 := cell_of_row (w7.setCell ⟨w3.heap.size, 3, none⟩ (.string (bs s2))) (w3.heap.size) 0 _ _ _ HL8.out; have l_1 := cell_of_row (w7.setCell ⟨w3.heap.size, 3, none⟩ (.string (bs s2))) (w3.heap.size) 1 _ _ _ HL8.out; have l_2 := cell_of_row (w7.setCell ⟨w3.heap.size, 3, none⟩ (.string (bs s2))) (w3.heap.size) 2 _ _ _ HL8.out; have l_3 := cell_of_row (w7.setCell ⟨w3.heap.size, 3, none⟩ (.string (bs s2))) (w3.heap.size) 3 _ _ _ HL8.out; have l_4 := cell_of_row (w7.setCell ⟨w3.heap.size, 3, none⟩ (.string (bs s2))) (w3.heap.size) 4 _ _ _ HL8.out; have l_5 := cell_of_row (w7.setCell ⟨w3.heap.size, 3, none⟩ (.string (bs s2))) (w3.heap.size) 5 _ _ _ HL8.out; have l_6 := cell_of_row (w7.setCell ⟨w3.heap.size, 3, none⟩ (.string (bs s2))) (w3.heap.size) 6 _ _ _ HL8.out; have l_7 := cell_of_row (w7.setCell ⟨w3.heap.size, 3, none⟩ (.string (bs s2))) (w3.heap.size) 7 _ _ _ HL8.out; have l_8 := cell_of_row (w7.setCell ⟨w3.heap.size, 3, none⟩ (.string (bs s2))) (w3.heap.size) 8 _ _ _ HL8.out; have l_9 := cell_of_row (w7.setCell ⟨w3.heap.size, 3, none⟩ (.string (bs s2))) (w3.heap.size) 9 _ _ _ HL8.out; have l_10 := cell_of_row (w7.setCell ⟨w3.heap.size, 3, none⟩ (.string (bs s2))) (w3.heap.size) 10 _ _ _ HL8.out; have l_11 := cell_of_row (w7.setCell ⟨w3.heap.size, 3, none⟩ (.string (bs s2))) (w3.heap.size) 11 _ _ _ HL8.out; have l_12 := cell_of_row (w7.setCell ⟨w3.heap.size, 3, none⟩ (.string (bs s2))) (w3.heap.size) 12 _ _ _ HL8.out; have l_13 := cell_of_row (w7.setCell ⟨w3.heap.size, 3, none⟩ (.string (bs s2))) (w3.heap.size) 13 _ _ _ HL8.out; have z_0 := cell_of_row (w7.setCell ⟨w3.heap.size, 3, none⟩ (.string (bs s2))) (w.heap.size) 0 _ _ _ HR8.out; have z_1 := cell_of_row (w7.setCell ⟨w3.heap.size, 3, none⟩ (.string (bs s2))) (w.heap.size) 1 _ _ _ HR8.out; have z_2 := cell_of_row (w7.setCell ⟨w3.heap.size, 3, none⟩ (.string (bs s2))) (w.heap.size) 2 _ _ _ HR8.out; have z_3 := cell_of_row (w7.setCell ⟨w3.heap.size, 3, none⟩ (.string (bs s2))) (w.heap.size) 3 _ _ _ HR8.out; have z_4 := cell_of_row (w7.setCell ⟨w3.heap.size, 3, none⟩ (.string (bs s2))) (w.heap.size) 4 _ _ _ HR8.out; have z_5 := cell_of_row (w7.setCell ⟨w3.heap.size, 3, none⟩ (.string (bs s2))) (w.heap.size) 5 _ _ _ HR8.out; have z_6 := cell_of_row (w7.setCell ⟨w3.heap.size, 3, none⟩ (.string (bs s2))) (w.heap.size) 6 _ _ _ HR8.out; have z_7 := cell_of_row (w7.setCell ⟨w3.heap.size, 3, none⟩ (.string (bs s2))) (w.heap.size) 7 _ _ _ HR8.out; have z_8 := cell_of_row (w7.setCell ⟨w3.heap.size, 3, none⟩ (.string (bs s2))) (w.heap.size) 8 _ _ _ HR8.out; have z_9 := cell_of_row (w7.setCell ⟨w3.heap.size, 3, none⟩ (.string (bs s2))) (w.heap.size) 9 _ _ _ HR8.out; have z_10 := cell_of_row (w7.setCell ⟨w3.heap.size, 3, none⟩ (.string (bs s2))) (w.heap.size) 10 _ _ _ HR8.out; have z_11 := cell_of_row (w7.setCell ⟨w3.heap.size, 3, none⟩ (.string (bs s2))) (w.heap.size) 11 _ _ _ HR8.out; have z_12 := cell_of_row (w7.setCell ⟨w3.heap.size, 3, none⟩ (.string (bs s2))) (w.heap.size) 12 _ _ _ HR8.out; have z_13 := cell_of_row (w7.setCell ⟨w3.heap.size, 3, none⟩ (.string (bs s2))) (w.heap.size) 13 _ _ _ HR8.out; have yz_0 := frozen_of_row (w7.setCell ⟨w3.heap.size, 3, none⟩ (.string (bs s2))) (w.heap.size) 0 _ _ HR8.out; have yz_1 := frozen_of_row (w7.setCell ⟨w3.heap.size, 3, none⟩ (.string (bs s2))) (w.heap.size) 1 _ _ HR8.out; have yz_2 := frozen_of_row (w7.setCell ⟨w3.heap.size, 3, none⟩ (.string (bs s2))) (w.heap.size) 2 _ _ HR8.out; have yz_3 := frozen_of_row (w7.setCell ⟨w3.heap.size, 3, none⟩ (.string (bs s2))) (w.heap.size) 3 _ _ HR8.out; have yz_4 := frozen_of_row (w7.setCell ⟨w3.heap.size, 3, none⟩ (.string (bs s2))) (w.heap.size) 4 _ _ HR8.out; have yz_5 := frozen_of_row (w7.setCell ⟨w3.heap.size, 3, none⟩ (.string (bs s2))) (w.heap.size) 5 _ _ HR8.out; have yz_6 := frozen_of_row (w7.setCell ⟨w3.heap.size, 3, none⟩ (.string (bs s2))) (w.heap.size) 6 _ _ HR8.out; have yz_7 := frozen_of_row (w7.setCell ⟨w3.heap.size, 3, none⟩ (.string (bs s2))) (w.heap.size) 7 _ _ HR8.out; have yz_8 := frozen_of_row (w7.setCell ⟨w3.heap.size, 3, none⟩ (.string (bs s2))) (w.heap.size) 8 _ _ HR8.out; have yz_9 := frozen_of_row (w7.setCell ⟨w3.heap.size, 3, none⟩ (.string (bs s2))) (w.heap.size) 9 _ _ HR8.out; have yz_10 := frozen_of_row (w7.setCell ⟨w3.heap.size, 3, none⟩ (.string (bs s2))) (w.heap.size) 10 _ _ HR8.out; have yz_11 := frozen_of_row (w7.setCell ⟨w3.heap.size, 3, none⟩ (.string (bs s2))) (w.heap.size) 11 _ _ HR8.out; have yz_12 := frozen_of_row (w7.setCell ⟨w3.heap.size, 3, none⟩ (.string (bs s2))) (w.heap.size) 12 _ _ HR8.out; have yz_13 := frozen_of_row (w7.setCell ⟨w3.heap.size, 3, none⟩ (.string (bs s2))) (w.heap.size) 13 _ _ HR8.out; clear hs7 hg7))
        | (go_at_call 33; ((with_reducible refine (pok_calls false _ HS8.out HBB.out).mono ?_); rintro e w' ⟨rfl, rfl⟩)))
      have hset := litSet_block HR8.out (.int .i64 3) (.string ⟨#[]⟩) (.slice none 0 0) (.string (bs s2)) (.bool xl.v) (.string (bs xl.x)) (.bool xl.s) (.string (bs xl.t)) (.int .i64 xl.n) (.bool false) (.string ⟨#[]⟩) (.bool false) (.string ⟨#[]⟩) (.int .i64 0)
      have q0 := cell_of_row _ _ 0 _ _ _ hset
      have q1 := cell_of_row _ _ 1 _ _ _ hset
      have q2 := cell_of_row _ _ 2 _ _ _ hset
      have q3 := cell_of_row _ _ 3 _ _ _ hset
      have q4 := cell_of_row _ _ 4 _ _ _ hset
      have q5 := cell_of_row _ _ 5 _ _ _ hset
      have q6 := cell_of_row _ _ 6 _ _ _ hset
      have q7 := cell_of_row _ _ 7 _ _ _ hset
      have q8 := cell_of_row _ _ 8 _ _ _ hset
      have q9 := cell_of_row _ _ 9 _ _ _ hset
      have q10 := cell_of_row _ _ 10 _ _ _ hset
      have q11 := cell_of_row _ _ 11 _ _ _ hset
      have q12 := cell_of_row _ _ 12 _ _ _ hset
      have q13 := cell_of_row _ _ 13 _ _ _ hset
      have hsz := HG2.out.size
      have hkT := litSet_self (T := w.heap.size) (w7.setCell ⟨w3.heap.size, 3, none⟩ (.string (bs s2))) (.int .i64 3) (.string ⟨#[]⟩) (.slice none 0 0) (.string (bs s2)) (.bool xl.v) (.string (bs xl.x)) (.bool xl.s) (.string (bs xl.t)) (.int .i64 xl.n) (.bool false) (.string ⟨#[]⟩) (.bool false) (.string ⟨#[]⟩) (.int .i64 0)
      refine bodyPost_ret (v := .agg #[.int .i64 3, .string ⟨#[]⟩, .slice none 0 0, .string (bs s2), .bool xl.v, .string (bs xl.x), .bool xl.s, .string (bs xl.t), .int .i64 xl.n, .bool false, .string ⟨#[]⟩, .bool false, .string ⟨#[]⟩, .int .i64 0]) (by simp [results, Tryz.results88, go_sem, q0, q1, q2, q3, q4, q5, q6, q7, q8, q9, q10, q11, q12, q13]) rfl ⟨grown_litSet (HG8.out) (Nat.le_refl _) (.int .i64 3) (.string ⟨#[]⟩) (.slice none 0 0) (.string (bs s2)) (.bool xl.v) (.string (bs xl.x)) (.bool xl.s) (.string (bs xl.t)) (.int .i64 xl.n) (.bool false) (.string ⟨#[]⟩) (.bool false) (.string ⟨#[]⟩) (.int .i64 0), ⟨3, atom0, s2, xl, term0⟩, .slice none 0 0, rfl, World.ownsRow_nil _ _ _ _, ?_⟩
      rw [HG0.out]
      exact PGot.step (g := Par.bad (α := LitL) a0 e0) (show PGot P L N A c 65700 (Par.bad (α := LitL) a0 e0) _ _ from ⟨HE0.out, nx1 + 1, by have := HNX1.out; omega, HS8.out⟩) hkT (fun k hk => by cases hk; exact ⟨by have := HLT.out; omega, _, _, _, HR8.out, by decide⟩)
    | false =>
      have HO0 := Lib.hid hop
      clear hop
      go_wp2_with (first
        | (go_at_call 115; ((with_reducible refine (operates0_calls false _ HS3.out HO0.out).mono ?_); rintro e w4 ⟨rfl, hb4⟩; have HS4 := Lib.hid (HS3.out.below hb4); have HL4 := Lib.hid (blk_keep HL3.out (grown_below hb4 none) (by simp)); have HR4 := Lib.hid (blk_keep HR3.out (grown_below hb4 none) (by simp)); have HG4 := Lib.hid (grown_trans HG3.out (grown_below hb4 (some P))); clear hb4))
        | (go_at_call 36; ((with_reducible refine (peek0_calls ⟨k2, s2, n2, q2⟩ a2 _ HS4.out HP2.out).mono ?_); rintro e w5 ⟨rfl, hb5⟩; have HS5 := Lib.hid (HS4.out.below hb5); have HL5 := Lib.hid (blk_keep HL4.out (grown_below hb5 none) (by simp)); have HR5 := Lib.hid (blk_keep HR4.out (grown_below hb5 none) (by simp)); have HG5 := Lib.hid (grown_trans HG4.out (grown_below hb5 (some P))); clear hb5))
        | (go_at_call 35; ((with_reducible refine (fail_bad_calls _ (bs s2) n2 q2 a2 2 _ HS5.out HBB.out).mono ?_); rintro e w6 ⟨rfl, hb6⟩; have HS6 := Lib.hid (HS5.out.below hb6); have HL6 := Lib.hid (blk_keep HL5.out (grown_below hb6 none) (by simp)); have HR6 := Lib.hid (blk_keep HR5.out (grown_below hb6 none) (by simp)); have HG6 := Lib.hid (grown_trans HG5.out (grown_below hb6 (some P))); clear hb6))
        | (go_at_call 61; ((with_reducible refine (takeA_calls _ k2 s2 n2 q2 a2 _ HS6.out HX2.out HP2.out rfl).mono ?_); rintro e w7 ⟨rfl, hs7, hg7⟩; have HL7 := Lib.hid (blk_keep HL6.out hg7 (by have := HLT3.out; simp; omega)); have HR7 := Lib.hid (blk_keep HR6.out hg7 (by have := HLT.out; simp; omega)); have HG7 := Lib.hid (grown_trans HG6.out hg7); have hfld := fun u => field_tok (k2 : Int) (bs s2) n2 q2 (a2 : Int) u; have p_3 := cell_of_row w7 w3.heap.size 3 _ _ _ HL7.out; have yp_3 := frozen_of_row w7 w3.heap.size 3 _ _ HL7.out; have HS8 := Lib.hid (hs7.step (grown_set (World.grownBy.refl w7 (some w3.heap.size)) 3 (.string (bs s2))) (fun k hk => by cases hk; exact ⟨by have := HLT3.out; omega, _, _, _, HL7.out, by decide⟩)); have HL8 := Lib.hid (set_at (i := 3) (cs' := #[.int .i64 3, .string ⟨#[]⟩, .slice none 0 0, .string (bs s2), .bool xl.v, .string (bs xl.x), .bool xl.s, .string (bs xl.t), .int .i64 xl.n, .bool false, .string ⟨#[]⟩, .bool false, .string ⟨#[]⟩, .int .i64 0]) HL7.out (.string (bs s2)) rfl); have HR8 := Lib.hid (blk_keep HR7.out (grown_set (World.grownBy.refl w7 (some w3.heap.size)) 3 (.string (bs s2))) (by have := HSZ.out; simp; omega)); have HG8 := Lib.hid (grown_setNew (T := w3.heap.size) HG7.out (by have := HSZ.out; omega) 3 (.string (bs s2))); have l_0 := cell_of_row (w7.setCell ⟨w3.heap.size, 3, none⟩ (.string (bs s2))) (w3.heap.size) 0 _ _ _ HL8.out; have l_1 := cell_of_row (w7.setCell ⟨w3.heap.size, 3, none⟩ (.string (bs s2))) (w3.heap.size) 1 _ _ _ HL8.out; have l_2 := cell_of_row (w7.setCell ⟨w3.heap.size, 3, none⟩ (.string (bs s2))) (w3.heap.size) 2 _ _ _ HL8.out; have l_3 := cell_of_row (w7.setCell ⟨w3.heap.size, 3, none⟩ (.string (bs s2))) (w3.heap.size) 3 _ _ _ HL8.out; have l_4 := cell_of_row (w7.setCell ⟨w3.heap.size, 3, none⟩ (.string (bs s2))) (w3.heap.size) 4 _ _ _ HL8.out; have l_5 := cell_of_row (w7.setCell ⟨w3.heap.size, 3, none⟩ (.string (bs s2))) (w3.heap.size) 5 _ _ _ HL8.out; have l_6 := cell_of_row (w7.setCell ⟨w3.heap.size, 3, none⟩ (.string (bs s2))) (w3.heap.size) 6 _ _ _ HL8.out; have l_7 := cell_of_row (w7.setCell ⟨w3.heap.size, 3, none⟩ (.string (bs s2))) (w3.heap.size) 7 _ _ _ HL8.out; have l_8 := cell_of_row (w7.setCell ⟨w3.heap.size, 3, none⟩ (.string (bs s2))) (w3.heap.size) 8 _ _ _ HL8.out; have l_9 := cell_of_row (w7.setCell ⟨w3.heap.size, 3, none⟩ (.string (bs s2))) (w3.heap.size) 9 _ _ _ HL8.out; have l_10 := cell_of_row (w7.setCell ⟨w3.heap.size, 3, none⟩ (.string (bs s2))) (w3.heap.size) 10 _ _ _ HL8.out; have l_11 := cell_of_row (w7.setCell ⟨w3.heap.size, 3, none⟩ (.string (bs s2))) (w3.heap.size) 11 _ _ _ HL8.out; have l_12 := cell_of_row (w7.setCell ⟨w3.heap.size, 3, none⟩ (.string (bs s2))) (w3.heap.size) 12 _ _ _ HL8.out; have l_13 := cell_of_row (w7.setCell ⟨w3.heap.size, 3, none⟩ (.string (bs s2))) (w3.heap.size) 13 _ _ _ HL8.out; have z_0 := cell_of_row (w7.setCell ⟨w3.heap.size, 3, none⟩ (.string (bs s2))) (w.heap.size) 0 _ _ _ HR8.out; have z_1 := cell_of_row (w7.setCell ⟨w3.heap.size, 3, none⟩ (.string (bs s2))) (w.heap.size) 1 _ _ _ HR8.out; have z_2 := cell_of_row (w7.setCell ⟨w3.heap.size, 3, none⟩ (.string (bs s2))) (w.heap.size) 2 _ _ _ HR8.out; have z_3 := cell_of_row (w7.setCell ⟨w3.heap.size, 3, none⟩ (.string (bs s2))) (w.heap.size) 3 _ _ _ HR8.out; have z_4 := cell_of_row (w7.setCell ⟨w3.heap.size, 3, none⟩ (.string (bs s2))) (w.heap.size) 4 _ _ _ HR8.out; have z_5 := cell_of_row (w7.setCell ⟨w3.heap.size, 3, none⟩ (.string (bs s2))) (w.heap.size) 5 _ _ _ HR8.out; have z_6 := cell_of_row (w7.setCell ⟨w3.heap.size, 3, none⟩ (.string (bs s2))) (w.heap.size) 6 _ _ _ HR8.out; have z_7 := cell_of_row (w7.setCell ⟨w3.heap.size, 3, none⟩ (.string (bs s2))) (w.heap.size) 7 _ _ _ HR8.out; have z_8 := cell_of_row (w7.setCell ⟨w3.heap.size, 3, none⟩ (.string (bs s2))) (w.heap.size) 8 _ _ _ HR8.out; have z_9 := cell_of_row (w7.setCell ⟨w3.heap.size, 3, none⟩ (.string (bs s2))) (w.heap.size) 9 _ _ _ HR8.out; have z_10 := cell_of_row (w7.setCell ⟨w3.heap.size, 3, none⟩ (.string (bs s2))) (w.heap.size) 10 _ _ _ HR8.out; have z_11 := cell_of_row (w7.setCell ⟨w3.heap.size, 3, none⟩ (.string (bs s2))) (w.heap.size) 11 _ _ _ HR8.out; have z_12 := cell_of_row (w7.setCell ⟨w3.heap.size, 3, none⟩ (.string (bs s2))) (w.heap.size) 12 _ _ _ HR8.out; have z_13 := cell_of_row (w7.setCell ⟨w3.heap.size, 3, none⟩ (.string (bs s2))) (w.heap.size) 13 _ _ _ HR8.out; have yz_0 := frozen_of_row (w7.setCell ⟨w3.heap.size, 3, none⟩ (.string (bs s2))) (w.heap.size) 0 _ _ HR8.out; have yz_1 := frozen_of_row (w7.setCell ⟨w3.heap.size, 3, none⟩ (.string (bs s2))) (w.heap.size) 1 _ _ HR8.out; have yz_2 := frozen_of_row (w7.setCell ⟨w3.heap.size, 3, none⟩ (.string (bs s2))) (w.heap.size) 2 _ _ HR8.out; have yz_3 := frozen_of_row (w7.setCell ⟨w3.heap.size, 3, none⟩ (.string (bs s2))) (w.heap.size) 3 _ _ HR8.out; have yz_4 := frozen_of_row (w7.setCell ⟨w3.heap.size, 3, none⟩ (.string (bs s2))) (w.heap.size) 4 _ _ HR8.out; have yz_5 := frozen_of_row (w7.setCell ⟨w3.heap.size, 3, none⟩ (.string (bs s2))) (w.heap.size) 5 _ _ HR8.out; have yz_6 := frozen_of_row (w7.setCell ⟨w3.heap.size, 3, none⟩ (.string (bs s2))) (w.heap.size) 6 _ _ HR8.out; have yz_7 := frozen_of_row (w7.setCell ⟨w3.heap.size, 3, none⟩ (.string (bs s2))) (w.heap.size) 7 _ _ HR8.out; have yz_8 := frozen_of_row (w7.setCell ⟨w3.heap.size, 3, none⟩ (.string (bs s2))) (w.heap.size) 8 _ _ HR8.out; have yz_9 := frozen_of_row (w7.setCell ⟨w3.heap.size, 3, none⟩ (.string (bs s2))) (w.heap.size) 9 _ _ HR8.out; have yz_10 := frozen_of_row (w7.setCell ⟨w3.heap.size, 3, none⟩ (.string (bs s2))) (w.heap.size) 10 _ _ HR8.out; have yz_11 := frozen_of_row (w7.setCell ⟨w3.heap.size, 3, none⟩ (.string (bs s2))) (w.heap.size) 11 _ _ HR8.out; have yz_12 := frozen_of_row (w7.setCell ⟨w3.heap.size, 3, none⟩ (.string (bs s2))) (w.heap.size) 12 _ _ HR8.out; have yz_13 := frozen_of_row (w7.setCell ⟨w3.heap.size, 3, none⟩ (.string (bs s2))) (w.heap.size) 13 _ _ HR8.out; clear hs7 hg7))
        | (go_at_call 33; ((with_reducible refine (pok_calls false _ HS8.out HBB.out).mono ?_); rintro e w' ⟨rfl, rfl⟩)))
      have hset := litSet_block HR8.out (.int .i64 3) (.string ⟨#[]⟩) (.slice none 0 0) (.string (bs s2)) (.bool xl.v) (.string (bs xl.x)) (.bool xl.s) (.string (bs xl.t)) (.int .i64 xl.n) (.bool false) (.string ⟨#[]⟩) (.bool false) (.string ⟨#[]⟩) (.int .i64 0)
      have q0 := cell_of_row _ _ 0 _ _ _ hset
      have q1 := cell_of_row _ _ 1 _ _ _ hset
      have q2 := cell_of_row _ _ 2 _ _ _ hset
      have q3 := cell_of_row _ _ 3 _ _ _ hset
      have q4 := cell_of_row _ _ 4 _ _ _ hset
      have q5 := cell_of_row _ _ 5 _ _ _ hset
      have q6 := cell_of_row _ _ 6 _ _ _ hset
      have q7 := cell_of_row _ _ 7 _ _ _ hset
      have q8 := cell_of_row _ _ 8 _ _ _ hset
      have q9 := cell_of_row _ _ 9 _ _ _ hset
      have q10 := cell_of_row _ _ 10 _ _ _ hset
      have q11 := cell_of_row _ _ 11 _ _ _ hset
      have q12 := cell_of_row _ _ 12 _ _ _ hset
      have q13 := cell_of_row _ _ 13 _ _ _ hset
      have hsz := HG2.out.size
      have hkT := litSet_self (T := w.heap.size) (w7.setCell ⟨w3.heap.size, 3, none⟩ (.string (bs s2))) (.int .i64 3) (.string ⟨#[]⟩) (.slice none 0 0) (.string (bs s2)) (.bool xl.v) (.string (bs xl.x)) (.bool xl.s) (.string (bs xl.t)) (.int .i64 xl.n) (.bool false) (.string ⟨#[]⟩) (.bool false) (.string ⟨#[]⟩) (.int .i64 0)
      refine bodyPost_ret (v := .agg #[.int .i64 3, .string ⟨#[]⟩, .slice none 0 0, .string (bs s2), .bool xl.v, .string (bs xl.x), .bool xl.s, .string (bs xl.t), .int .i64 xl.n, .bool false, .string ⟨#[]⟩, .bool false, .string ⟨#[]⟩, .int .i64 0]) (by simp [results, Tryz.results88, go_sem, q0, q1, q2, q3, q4, q5, q6, q7, q8, q9, q10, q11, q12, q13]) rfl ⟨grown_litSet (HG8.out) (Nat.le_refl _) (.int .i64 3) (.string ⟨#[]⟩) (.slice none 0 0) (.string (bs s2)) (.bool xl.v) (.string (bs xl.x)) (.bool xl.s) (.string (bs xl.t)) (.int .i64 xl.n) (.bool false) (.string ⟨#[]⟩) (.bool false) (.string ⟨#[]⟩) (.int .i64 0), ⟨3, atom0, s2, xl, term0⟩, .slice none 0 0, rfl, World.ownsRow_nil _ _ _ _, ?_⟩
      rw [HG0.out]
      exact PGot.step (g := Par.bad (α := LitL) a0 e0) (show PGot P L N A c 65700 (Par.bad (α := LitL) a0 e0) _ _ from ⟨HE0.out, nx1 + 1, by have := HNX1.out; omega, HS8.out⟩) hkT (fun k hk => by cases hk; exact ⟨by have := HLT.out; omega, _, _, _, HR8.out, by decide⟩)
  | ok l r1 =>
    obtain ⟨⟨⟨k2, s2, n2, q2⟩, a2⟩, hpp⟩ : ∃ p, pk N r1 0 = p := ⟨_, rfl⟩
    have HO := Lib.hid ht
    have HPP := Lib.hid hpp
    cases hop : isO N r1 0 with
    | false =>
      have HOP := Lib.hid hop
      have HG0 := Lib.hid (show litP N (L.drop nx) = .bad a2 2 by
        unfold litP
        rw [hp]
        simp only [HNOT.out, HO1.out, Bool.not_true, Bool.and_false, Bool.false_eq_true, if_false]
        rw [ht]
        simp [hop, hpp])
      clear hp ht hpp hop
      go_enter Tryz.func88, Tryz.ntmps88
      go_wp2_with (first
        | (go_at_call 36; ((with_reducible refine (peekK0_calls 1 k s n false a _ (HS.out _ ((Below.refl _ _).alloc (Nat.le_refl _) _)) HP.out HK.out).mono ?_); rintro e w1 ⟨rfl, hb1⟩; have HG1 := Lib.hid (grown_trans (World.grownBy_alloc w (.cells #[.int .i64 0, .string ⟨#[]⟩, .slice none 0 0, .string ⟨#[]⟩, .bool false, .string ⟨#[]⟩, .bool false, .string ⟨#[]⟩, .int .i64 0, .bool false, .string ⟨#[]⟩, .bool false, .string ⟨#[]⟩, .int .i64 0] 47) (some P)) (grown_below hb1 (some P))); have HR1 := Lib.hid (blk_keep (blk_keep HR0.out (grown_below hb1 none) (by simp)) (World.grownBy_alloc w1 (.cells #[.int .i64 1, .string (bs s), .int .i64 n, .bool false, .int .i64 (a : Int)] 71) none) (by simp)); have HS1 := Lib.hid (HS.out _ (below_then' (below_then' ((Below.refl w.heap.size w).alloc (Nat.le_refl _) _) hb1 (Nat.le_refl _)) ((Below.refl w1.heap.size w1).alloc (Nat.le_refl _) (.cells #[.int .i64 1, .string (bs s), .int .i64 n, .bool false, .int .i64 (a : Int)] 71)) (Nat.le_refl _)));  clear hb1))
        | (go_at_call 115; ((with_reducible refine (operates1_calls true _ HS1.out HO1.out).mono ?_); rintro e w2 ⟨rfl, hb2⟩; have HS2 := Lib.hid (HS1.out.below hb2); have HG2 := Lib.hid (grown_trans HG1.out (grown_trans (World.grownBy_alloc w1 (.cells #[.int .i64 1, .string (bs s), .int .i64 n, .bool false, .int .i64 (a : Int)] 71) (some P)) (grown_below hb2 (some P)))); have HR2 := Lib.hid (blk_keep HR1.out (grown_below hb2 none) (by simp)); clear hb2))
        | (go_at_call 64; ((with_reducible refine (term_calls _ (po_mk HNX.out HS2.out)).mono ?_); rintro e w3 ⟨hg3, xl, rfl, hgot⟩; rw [HO.out] at hgot; obtain ⟨hxx, nx1, hnx1, hr1, hS1⟩ := hgot; unfold termA; have HLT3 := Lib.hid (show P < w3.heap.size from hS1.lt); have HSZ := Lib.hid (show w.heap.size < w3.heap.size by have h1 := (Array.getElem?_eq_some_iff.1 HR2.out).1; have h2 := hg3.size; omega); have HS3 := Lib.hid (hS1.below ((Below.refl w3.heap.size w3).alloc (Nat.le_refl _) (.cells #[.int .i64 3, .string ⟨#[]⟩, .slice none 0 0, .string ⟨#[]⟩, .bool xl.v, .string (bs xl.x), .bool xl.s, .string (bs xl.t), .int .i64 xl.n, .bool false, .string ⟨#[]⟩, .bool false, .string ⟨#[]⟩, .int .i64 0] 47))); have HL3 := Lib.hid (heap_alloc_new w3 (.cells #[.int .i64 3, .string ⟨#[]⟩, .slice none 0 0, .string ⟨#[]⟩, .bool xl.v, .string (bs xl.x), .bool xl.s, .string (bs xl.t), .int .i64 xl.n, .bool false, .string ⟨#[]⟩, .bool false, .string ⟨#[]⟩, .int .i64 0] 47)); have HR3 := Lib.hid (blk_keep (blk_keep HR2.out hg3 (by have := HLT.out; simp; omega)) (World.grownBy_alloc w3 (.cells #[.int .i64 3, .string ⟨#[]⟩, .slice none 0 0, .string ⟨#[]⟩, .bool xl.v, .string (bs xl.x), .bool xl.s, .string (bs xl.t), .int .i64 xl.n, .bool false, .string ⟨#[]⟩, .bool false, .string ⟨#[]⟩, .int .i64 0] 47) none) (by simp)); have HG3 := Lib.hid (grown_trans HG2.out (grown_trans hg3 (World.grownBy_alloc w3 (.cells #[.int .i64 3, .string ⟨#[]⟩, .slice none 0 0, .string ⟨#[]⟩, .bool xl.v, .string (bs xl.x), .bool xl.s, .string (bs xl.t), .int .i64 xl.n, .bool false, .string ⟨#[]⟩, .bool false, .string ⟨#[]⟩, .int .i64 0] 47) _))); have HXX := Lib.hid hxx; have HNX1 := Lib.hid hnx1; have HO0 := Lib.hid (show isO N (L.drop nx1) 0 = false by rw [hr1]; exact HOP.out); have HP2 := Lib.hid (show pk N (L.drop nx1) 0 = (⟨k2, s2, n2, q2⟩, a2) by rw [hr1]; exact HPP.out); have HX2 := Lib.hid (show nx1 + 1 ≤ 1000000 by have := HN.out; omega); clear hxx hnx1 hr1; clear hg3 hS1))
        | (go_at_call 115; ((with_reducible refine (operates0_calls false _ HS3.out HO0.out).mono ?_); rintro e w4 ⟨rfl, hb4⟩; have HS4 := Lib.hid (HS3.out.below hb4); have HL4 := Lib.hid (blk_keep HL3.out (grown_below hb4 none) (by simp)); have HR4 := Lib.hid (blk_keep HR3.out (grown_below hb4 none) (by simp)); have HG4 := Lib.hid (grown_trans HG3.out (grown_below hb4 (some P))); clear hb4))
        | (go_at_call 36; ((with_reducible refine (peek0_calls ⟨k2, s2, n2, q2⟩ a2 _ HS4.out HP2.out).mono ?_); rintro e w5 ⟨rfl, hb5⟩; have HS5 := Lib.hid (HS4.out.below hb5); have HL5 := Lib.hid (blk_keep HL4.out (grown_below hb5 none) (by simp)); have HR5 := Lib.hid (blk_keep HR4.out (grown_below hb5 none) (by simp)); have HG5 := Lib.hid (grown_trans HG4.out (grown_below hb5 (some P))); clear hb5))
        | (go_at_call 35; ((with_reducible refine (fail_ok_calls _ (bs s2) n2 q2 a2 2 _ HS5.out).mono ?_); rintro e w6 ⟨rfl, hs6, hg6⟩; have HS6 := Lib.hid hs6; have HL6 := Lib.hid (blk_keep HL5.out hg6 (by have := HLT3.out; simp; omega)); have HR6 := Lib.hid (blk_keep HR5.out hg6 (by have := HLT.out; simp; omega)); have HG6 := Lib.hid (grown_trans HG5.out hg6); clear hs6 hg6))
        | (go_at_call 61; ((with_reducible refine (takeA_calls _ k2 s2 n2 q2 a2 _ HS6.out HX2.out HP2.out rfl).mono ?_); rintro e w7 ⟨rfl, hs7, hg7⟩; have HL7 := Lib.hid (blk_keep HL6.out hg7 (by have := HLT3.out; simp; omega)); have HR7 := Lib.hid (blk_keep HR6.out hg7 (by have := HLT.out; simp; omega)); have HG7 := Lib.hid (grown_trans HG6.out hg7); have hfld := fun u => field_tok (k2 : Int) (bs s2) n2 q2 (a2 : Int) u; have p_3 := cell_of_row w7 w3.heap.size 3 _ _ _ HL7.out; have yp_3 := frozen_of_row w7 w3.heap.size 3 _ _ HL7.out; have HS8 := Lib.hid (hs7.step (grown_set (World.grownBy.refl w7 (some w3.heap.size)) 3 (.string (bs s2))) (fun k hk => by cases hk; exact ⟨by have := HLT3.out; omega, _, _, _, HL7.out, by decide⟩)); have HL8 := Lib.hid (set_at (i := 3) (cs' := #[.int .i64 3, .string ⟨#[]⟩, .slice none 0 0, .string (bs s2), .bool xl.v, .string (bs xl.x), .bool xl.s, .string (bs xl.t), .int .i64 xl.n, .bool false, .string ⟨#[]⟩, .bool false, .string ⟨#[]⟩, .int .i64 0]) HL7.out (.string (bs s2)) rfl); have HR8 := Lib.hid (blk_keep HR7.out (grown_set (World.grownBy.refl w7 (some w3.heap.size)) 3 (.string (bs s2))) (by have := HSZ.out; simp; omega)); have HG8 := Lib.hid (grown_setNew (T := w3.heap.size) HG7.out (by have := HSZ.out; omega) 3 (.string (bs s2))); have l_0 := cell_of_row (w7.setCell ⟨w3.heap.size, 3, none⟩ (.string (bs s2))) (w3.heap.size) 0 _ _ _ HL8.out; have l_1 := cell_of_row (w7.setCell ⟨w3.heap.size, 3, none⟩ (.string (bs s2))) (w3.heap.size) 1 _ _ _ HL8.out; have l_2 := cell_of_row (w7.setCell ⟨w3.heap.size, 3, none⟩ (.string (bs s2))) (w3.heap.size) 2 _ _ _ HL8.out; have l_3 := cell_of_row (w7.setCell ⟨w3.heap.size, 3, none⟩ (.string (bs s2))) (w3.heap.size) 3 _ _ _ HL8.out; have l_4 := cell_of_row (w7.setCell ⟨w3.heap.size, 3, none⟩ (.string (bs s2))) (w3.heap.size) 4 _ _ _ HL8.out; have l_5 := cell_of_row (w7.setCell ⟨w3.heap.size, 3, none⟩ (.string (bs s2))) (w3.heap.size) 5 _ _ _ HL8.out; have l_6 := cell_of_row (w7.setCell ⟨w3.heap.size, 3, none⟩ (.string (bs s2))) (w3.heap.size) 6 _ _ _ HL8.out; have l_7 := cell_of_row (w7.setCell ⟨w3.heap.size, 3, none⟩ (.string (bs s2))) (w3.heap.size) 7 _ _ _ HL8.out; have l_8 := cell_of_row (w7.setCell ⟨w3.heap.size, 3, none⟩ (.string (bs s2))) (w3.heap.size) 8 _ _ _ HL8.out; have l_9 := cell_of_row (w7.setCell ⟨w3.heap.size, 3, none⟩ (.string (bs s2))) (w3.heap.size) 9 _ _ _ HL8.out; have l_10 := cell_of_row (w7.setCell ⟨w3.heap.size, 3, none⟩ (.string (bs s2))) (w3.heap.size) 10 _ _ _ HL8.out; have l_11 := cell_of_row (w7.setCell ⟨w3.heap.size, 3, none⟩ (.string (bs s2))) (w3.heap.size) 11 _ _ _ HL8.out; have l_12 := cell_of_row (w7.setCell ⟨w3.heap.size, 3, none⟩ (.string (bs s2))) (w3.heap.size) 12 _ _ _ HL8.out; have l_13 := cell_of_row (w7.setCell ⟨w3.heap.size, 3, none⟩ (.string (bs s2))) (w3.heap.size) 13 _ _ _ HL8.out; have z_0 := cell_of_row (w7.setCell ⟨w3.heap.size, 3, none⟩ (.string (bs s2))) (w.heap.size) 0 _ _ _ HR8.out; have z_1 := cell_of_row (w7.setCell ⟨w3.heap.size, 3, none⟩ (.string (bs s2))) (w.heap.size) 1 _ _ _ HR8.out; have z_2 := cell_of_row (w7.setCell ⟨w3.heap.size, 3, none⟩ (.string (bs s2))) (w.heap.size) 2 _ _ _ HR8.out; have z_3 := cell_of_row (w7.setCell ⟨w3.heap.size, 3, none⟩ (.string (bs s2))) (w.heap.size) 3 _ _ _ HR8.out; have z_4 := cell_of_row (w7.setCell ⟨w3.heap.size, 3, none⟩ (.string (bs s2))) (w.heap.size) 4 _ _ _ HR8.out; have z_5 := cell_of_row (w7.setCell ⟨w3.heap.size, 3, none⟩ (.string (bs s2))) (w.heap.size) 5 _ _ _ HR8.out; have z_6 := cell_of_row (w7.setCell ⟨w3.heap.size, 3, none⟩ (.string (bs s2))) (w.heap.size) 6 _ _ _ HR8.out; have z_7 := cell_of_row (w7.setCell ⟨w3.heap.size, 3, none⟩ (.string (bs s2))) (w.heap.size) 7 _ _ _ HR8.out; have z_8 := cell_of_row (w7.setCell ⟨w3.heap.size, 3, none⟩ (.string (bs s2))) (w.heap.size) 8 _ _ _ HR8.out; have z_9 := cell_of_row (w7.setCell ⟨w3.heap.size, 3, none⟩ (.string (bs s2))) (w.heap.size) 9 _ _ _ HR8.out; have z_10 := cell_of_row (w7.setCell ⟨w3.heap.size, 3, none⟩ (.string (bs s2))) (w.heap.size) 10 _ _ _ HR8.out; have z_11 := cell_of_row (w7.setCell ⟨w3.heap.size, 3, none⟩ (.string (bs s2))) (w.heap.size) 11 _ _ _ HR8.out; have z_12 := cell_of_row (w7.setCell ⟨w3.heap.size, 3, none⟩ (.string (bs s2))) (w.heap.size) 12 _ _ _ HR8.out; have z_13 := cell_of_row (w7.setCell ⟨w3.heap.size, 3, none⟩ (.string (bs s2))) (w.heap.size) 13 _ _ _ HR8.out; have yz_0 := frozen_of_row (w7.setCell ⟨w3.heap.size, 3, none⟩ (.string (bs s2))) (w.heap.size) 0 _ _ HR8.out; have yz_1 := frozen_of_row (w7.setCell ⟨w3.heap.size, 3, none⟩ (.string (bs s2))) (w.heap.size) 1 _ _ HR8.out; have yz_2 := frozen_of_row (w7.setCell ⟨w3.heap.size, 3, none⟩ (.string (bs s2))) (w.heap.size) 2 _ _ HR8.out; have yz_3 := frozen_of_row (w7.setCell ⟨w3.heap.size, 3, none⟩ (.string (bs s2))) (w.heap.size) 3 _ _ HR8.out; have yz_4 := frozen_of_row (w7.setCell ⟨w3.heap.size, 3, none⟩ (.string (bs s2))) (w.heap.size) 4 _ _ HR8.out; have yz_5 := frozen_of_row (w7.setCell ⟨w3.heap.size, 3, none⟩ (.string (bs s2))) (w.heap.size) 5 _ _ HR8.out; have yz_6 := frozen_of_row (w7.setCell ⟨w3.heap.size, 3, none⟩ (.string (bs s2))) (w.heap.size) 6 _ _ HR8.out; have yz_7 := frozen_of_row (w7.setCell ⟨w3.heap.size, 3, none⟩ (.string (bs s2))) (w.heap.size) 7 _ _ HR8.out; have yz_8 := frozen_of_row (w7.setCell ⟨w3.heap.size, 3, none⟩ (.string (bs s2))) (w.heap.size) 8 _ _ HR8.out; have yz_9 := frozen_of_row (w7.setCell ⟨w3.heap.size, 3, none⟩ (.string (bs s2))) (w.heap.size) 9 _ _ HR8.out; have yz_10 := frozen_of_row (w7.setCell ⟨w3.heap.size, 3, none⟩ (.string (bs s2))) (w.heap.size) 10 _ _ HR8.out; have yz_11 := frozen_of_row (w7.setCell ⟨w3.heap.size, 3, none⟩ (.string (bs s2))) (w.heap.size) 11 _ _ HR8.out; have yz_12 := frozen_of_row (w7.setCell ⟨w3.heap.size, 3, none⟩ (.string (bs s2))) (w.heap.size) 12 _ _ HR8.out; have yz_13 := frozen_of_row (w7.setCell ⟨w3.heap.size, 3, none⟩ (.string (bs s2))) (w.heap.size) 13 _ _ HR8.out; clear hs7 hg7))
        | (go_at_call 33; ((with_reducible refine (pok_calls false _ HS8.out (show ((2 : Int) == 0) = false from rfl)).mono ?_); rintro e w' ⟨rfl, rfl⟩)))
      have hset := litSet_block HR8.out (.int .i64 3) (.string ⟨#[]⟩) (.slice none 0 0) (.string (bs s2)) (.bool xl.v) (.string (bs xl.x)) (.bool xl.s) (.string (bs xl.t)) (.int .i64 xl.n) (.bool false) (.string ⟨#[]⟩) (.bool false) (.string ⟨#[]⟩) (.int .i64 0)
      have q0 := cell_of_row _ _ 0 _ _ _ hset
      have q1 := cell_of_row _ _ 1 _ _ _ hset
      have q2 := cell_of_row _ _ 2 _ _ _ hset
      have q3 := cell_of_row _ _ 3 _ _ _ hset
      have q4 := cell_of_row _ _ 4 _ _ _ hset
      have q5 := cell_of_row _ _ 5 _ _ _ hset
      have q6 := cell_of_row _ _ 6 _ _ _ hset
      have q7 := cell_of_row _ _ 7 _ _ _ hset
      have q8 := cell_of_row _ _ 8 _ _ _ hset
      have q9 := cell_of_row _ _ 9 _ _ _ hset
      have q10 := cell_of_row _ _ 10 _ _ _ hset
      have q11 := cell_of_row _ _ 11 _ _ _ hset
      have q12 := cell_of_row _ _ 12 _ _ _ hset
      have q13 := cell_of_row _ _ 13 _ _ _ hset
      have hsz := HG2.out.size
      have hkT := litSet_self (T := w.heap.size) (w7.setCell ⟨w3.heap.size, 3, none⟩ (.string (bs s2))) (.int .i64 3) (.string ⟨#[]⟩) (.slice none 0 0) (.string (bs s2)) (.bool xl.v) (.string (bs xl.x)) (.bool xl.s) (.string (bs xl.t)) (.int .i64 xl.n) (.bool false) (.string ⟨#[]⟩) (.bool false) (.string ⟨#[]⟩) (.int .i64 0)
      refine bodyPost_ret (v := .agg #[.int .i64 3, .string ⟨#[]⟩, .slice none 0 0, .string (bs s2), .bool xl.v, .string (bs xl.x), .bool xl.s, .string (bs xl.t), .int .i64 xl.n, .bool false, .string ⟨#[]⟩, .bool false, .string ⟨#[]⟩, .int .i64 0]) (by simp [results, Tryz.results88, go_sem, q0, q1, q2, q3, q4, q5, q6, q7, q8, q9, q10, q11, q12, q13]) rfl ⟨grown_litSet (HG8.out) (Nat.le_refl _) (.int .i64 3) (.string ⟨#[]⟩) (.slice none 0 0) (.string (bs s2)) (.bool xl.v) (.string (bs xl.x)) (.bool xl.s) (.string (bs xl.t)) (.int .i64 xl.n) (.bool false) (.string ⟨#[]⟩) (.bool false) (.string ⟨#[]⟩) (.int .i64 0), ⟨3, atom0, s2, xl, term0⟩, .slice none 0 0, rfl, World.ownsRow_nil _ _ _ _, ?_⟩
      rw [HG0.out]
      exact PGot.step (g := Par.bad (α := LitL) a2 2) (show PGot P L N A c 65700 (Par.bad (α := LitL) a2 2) _ _ from ⟨by omega, nx1 + 1, by have := HNX1.out; have := HN.out; omega, HS8.out⟩) hkT (fun k hk => by cases hk; exact ⟨by have := HLT.out; omega, _, _, _, HR8.out, by decide⟩)
    | true =>
      have HOP := Lib.hid hop
      obtain ⟨r2, hr2⟩ : ∃ r2, r1.tail = r2 := ⟨_, rfl⟩
      have HRT := Lib.hid hr2
      have HG0 := Lib.hid (show litP N (L.drop nx) = (termP N r2).map (fun y => ⟨3, atom0, s2, l, y⟩) by
        unfold litP
        rw [hp]
        simp only [HNOT.out, HO1.out, Bool.not_true, Bool.and_false, Bool.false_eq_true, if_false]
        rw [ht]
        simp only [hop, hpp, hr2, if_true]
        cases termP N r2 <;> rfl)
      clear hp ht hpp hop hr2
      go_enter Tryz.func88, Tryz.ntmps88
      go_wp2_with (first
        | (go_at_call 36; ((with_reducible refine (peekK0_calls 1 k s n false a _ (HS.out _ ((Below.refl _ _).alloc (Nat.le_refl _) _)) HP.out HK.out).mono ?_); rintro e w1 ⟨rfl, hb1⟩; have HG1 := Lib.hid (grown_trans (World.grownBy_alloc w (.cells #[.int .i64 0, .string ⟨#[]⟩, .slice none 0 0, .string ⟨#[]⟩, .bool false, .string ⟨#[]⟩, .bool false, .string ⟨#[]⟩, .int .i64 0, .bool false, .string ⟨#[]⟩, .bool false, .string ⟨#[]⟩, .int .i64 0] 47) (some P)) (grown_below hb1 (some P))); have HR1 := Lib.hid (blk_keep (blk_keep HR0.out (grown_below hb1 none) (by simp)) (World.grownBy_alloc w1 (.cells #[.int .i64 1, .string (bs s), .int .i64 n, .bool false, .int .i64 (a : Int)] 71) none) (by simp)); have HS1 := Lib.hid (HS.out _ (below_then' (below_then' ((Below.refl w.heap.size w).alloc (Nat.le_refl _) _) hb1 (Nat.le_refl _)) ((Below.refl w1.heap.size w1).alloc (Nat.le_refl _) (.cells #[.int .i64 1, .string (bs s), .int .i64 n, .bool false, .int .i64 (a : Int)] 71)) (Nat.le_refl _)));  clear hb1))
        | (go_at_call 115; ((with_reducible refine (operates1_calls true _ HS1.out HO1.out).mono ?_); rintro e w2 ⟨rfl, hb2⟩; have HS2 := Lib.hid (HS1.out.below hb2); have HG2 := Lib.hid (grown_trans HG1.out (grown_trans (World.grownBy_alloc w1 (.cells #[.int .i64 1, .string (bs s), .int .i64 n, .bool false, .int .i64 (a : Int)] 71) (some P)) (grown_below hb2 (some P)))); have HR2 := Lib.hid (blk_keep HR1.out (grown_below hb2 none) (by simp)); clear hb2))
        | (go_at_call 64; ((with_reducible refine (term_calls _ (po_mk HNX.out HS2.out)).mono ?_); rintro e w3 ⟨hg3, xl, rfl, hgot⟩; rw [HO.out] at hgot; obtain ⟨hxx, nx1, hnx1, hr1, hS1⟩ := hgot; unfold termA; have HLT3 := Lib.hid (show P < w3.heap.size from hS1.lt); have HSZ := Lib.hid (show w.heap.size < w3.heap.size by have h1 := (Array.getElem?_eq_some_iff.1 HR2.out).1; have h2 := hg3.size; omega); have HS3 := Lib.hid (hS1.below ((Below.refl w3.heap.size w3).alloc (Nat.le_refl _) (.cells #[.int .i64 3, .string ⟨#[]⟩, .slice none 0 0, .string ⟨#[]⟩, .bool xl.v, .string (bs xl.x), .bool xl.s, .string (bs xl.t), .int .i64 xl.n, .bool false, .string ⟨#[]⟩, .bool false, .string ⟨#[]⟩, .int .i64 0] 47))); have HL3 := Lib.hid (heap_alloc_new w3 (.cells #[.int .i64 3, .string ⟨#[]⟩, .slice none 0 0, .string ⟨#[]⟩, .bool xl.v, .string (bs xl.x), .bool xl.s, .string (bs xl.t), .int .i64 xl.n, .bool false, .string ⟨#[]⟩, .bool false, .string ⟨#[]⟩, .int .i64 0] 47)); have HR3 := Lib.hid (blk_keep (blk_keep HR2.out hg3 (by have := HLT.out; simp; omega)) (World.grownBy_alloc w3 (.cells #[.int .i64 3, .string ⟨#[]⟩, .slice none 0 0, .string ⟨#[]⟩, .bool xl.v, .string (bs xl.x), .bool xl.s, .string (bs xl.t), .int .i64 xl.n, .bool false, .string ⟨#[]⟩, .bool false, .string ⟨#[]⟩, .int .i64 0] 47) none) (by simp)); have HG3 := Lib.hid (grown_trans HG2.out (grown_trans hg3 (World.grownBy_alloc w3 (.cells #[.int .i64 3, .string ⟨#[]⟩, .slice none 0 0, .string ⟨#[]⟩, .bool xl.v, .string (bs xl.x), .bool xl.s, .string (bs xl.t), .int .i64 xl.n, .bool false, .string ⟨#[]⟩, .bool false, .string ⟨#[]⟩, .int .i64 0] 47) _))); have HXX := Lib.hid hxx; have HNX1 := Lib.hid hnx1; have HO0 := Lib.hid (show isO N (L.drop nx1) 0 = true by rw [hr1]; exact HOP.out); have HP2 := Lib.hid (show pk N (L.drop nx1) 0 = (⟨k2, s2, n2, q2⟩, a2) by rw [hr1]; exact HPP.out); have HX2 := Lib.hid (show nx1 + 1 ≤ 1000000 by have := HN.out; omega); have HIN2 := Lib.hid (op_in HO0.out); have HTL2 := Lib.hid (show L.drop (nx1 + 1) = r2 by rw [← HRT.out, ← hr1, List.tail_drop]); clear hxx hnx1 hr1; clear hg3 hS1))
        | (go_at_call 115; ((with_reducible refine (operates0_calls true _ HS3.out HO0.out).mono ?_); rintro e w4 ⟨rfl, hb4⟩; have HS4 := Lib.hid (HS3.out.below hb4); have HL4 := Lib.hid (blk_keep HL3.out (grown_below hb4 none) (by simp)); have HR4 := Lib.hid (blk_keep HR3.out (grown_below hb4 none) (by simp)); have HG4 := Lib.hid (grown_trans HG3.out (grown_below hb4 (some P))); clear hb4))
        | (go_at_call 61; ((with_reducible refine (takeA_calls _ k2 s2 n2 q2 a2 _ HS4.out HX2.out HP2.out rfl).mono ?_); rintro e w7 ⟨rfl, hs7, hg7⟩; have HL7 := Lib.hid (blk_keep HL4.out hg7 (by have := HLT3.out; simp; omega)); have HR7 := Lib.hid (blk_keep HR4.out hg7 (by have := HLT.out; simp; omega)); have HG7 := Lib.hid (grown_trans HG4.out hg7); have hfld := fun u => field_tok (k2 : Int) (bs s2) n2 q2 (a2 : Int) u; have p_3 := cell_of_row w7 w3.heap.size 3 _ _ _ HL7.out; have yp_3 := frozen_of_row w7 w3.heap.size 3 _ _ HL7.out; have HS8 := Lib.hid (hs7.step (grown_set (World.grownBy.refl w7 (some w3.heap.size)) 3 (.string (bs s2))) (fun k hk => by cases hk; exact ⟨by have := HLT3.out; omega, _, _, _, HL7.out, by decide⟩)); have HL8 := Lib.hid (set_at (i := 3) (cs' := #[.int .i64 3, .string ⟨#[]⟩, .slice none 0 0, .string (bs s2), .bool xl.v, .string (bs xl.x), .bool xl.s, .string (bs xl.t), .int .i64 xl.n, .bool false, .string ⟨#[]⟩, .bool false, .string ⟨#[]⟩, .int .i64 0]) HL7.out (.string (bs s2)) rfl); have HR8 := Lib.hid (blk_keep HR7.out (grown_set (World.grownBy.refl w7 (some w3.heap.size)) 3 (.string (bs s2))) (by have := HSZ.out; simp; omega)); have HG8 := Lib.hid (grown_setNew (T := w3.heap.size) HG7.out (by have := HSZ.out; omega) 3 (.string (bs s2))); clear hs7 hg7))
        | (go_at_call 33; ((with_reducible refine (pok_calls true _ HS8.out rfl).mono ?_); rintro e w' ⟨rfl, rfl⟩))
        | (go_at_call 64; refine RowKit.Hid.out ?_))
      refine Lib.hid ?_
      (with_reducible refine (term_calls (L := L) (N := N) (A := A) (c := c) (r := L.drop (nx1 + 1)) _ ?_).mono ?_)
      (focus (exact po_mk HIN2.out HS8.out))
      rintro e w9 ⟨hg9, xr, rfl, hgot9⟩
      unfold termA
      have HL9 := Lib.hid (blk_keep HL8.out hg9 (by have := HLT3.out; simp; omega))
      have HR9 := Lib.hid (blk_keep HR8.out hg9 (by have := HLT.out; simp; omega))
      have HG9 := Lib.hid (grown_trans HG8.out hg9)
      have p_9 := cell_of_row w9 w3.heap.size 9 _ _ _ HL9.out
      have yp_9 := frozen_of_row w9 w3.heap.size 9 _ _ HL9.out
      have p_10 := cell_of_row w9 w3.heap.size 10 _ _ _ HL9.out
      have yp_10 := frozen_of_row w9 w3.heap.size 10 _ _ HL9.out
      have p_11 := cell_of_row w9 w3.heap.size 11 _ _ _ HL9.out
      have yp_11 := frozen_of_row w9 w3.heap.size 11 _ _ HL9.out
      have p_12 := cell_of_row w9 w3.heap.size 12 _ _ _ HL9.out
      have yp_12 := frozen_of_row w9 w3.heap.size 12 _ _ HL9.out
      have p_13 := cell_of_row w9 w3.heap.size 13 _ _ _ HL9.out
      have yp_13 := frozen_of_row w9 w3.heap.size 13 _ _ HL9.out
      have HL10 := Lib.hid (set_at (i := 13) (cs' := #[.int .i64 3, .string ⟨#[]⟩, .slice none 0 0, .string (bs s2), .bool xl.v, .string (bs xl.x), .bool xl.s, .string (bs xl.t), .int .i64 xl.n, .bool xr.v, .string (bs xr.x), .bool xr.s, .string (bs xr.t), .int .i64 xr.n]) (set_at (i := 12) (cs' := #[.int .i64 3, .string ⟨#[]⟩, .slice none 0 0, .string (bs s2), .bool xl.v, .string (bs xl.x), .bool xl.s, .string (bs xl.t), .int .i64 xl.n, .bool xr.v, .string (bs xr.x), .bool xr.s, .string (bs xr.t), .int .i64 0]) (set_at (i := 11) (cs' := #[.int .i64 3, .string ⟨#[]⟩, .slice none 0 0, .string (bs s2), .bool xl.v, .string (bs xl.x), .bool xl.s, .string (bs xl.t), .int .i64 xl.n, .bool xr.v, .string (bs xr.x), .bool xr.s, .string ⟨#[]⟩, .int .i64 0]) (set_at (i := 10) (cs' := #[.int .i64 3, .string ⟨#[]⟩, .slice none 0 0, .string (bs s2), .bool xl.v, .string (bs xl.x), .bool xl.s, .string (bs xl.t), .int .i64 xl.n, .bool xr.v, .string (bs xr.x), .bool false, .string ⟨#[]⟩, .int .i64 0]) (set_at (i := 9) (cs' := #[.int .i64 3, .string ⟨#[]⟩, .slice none 0 0, .string (bs s2), .bool xl.v, .string (bs xl.x), .bool xl.s, .string (bs xl.t), .int .i64 xl.n, .bool xr.v, .string ⟨#[]⟩, .bool false, .string ⟨#[]⟩, .int .i64 0]) HL9.out (.bool xr.v) rfl) (.string (bs xr.x)) rfl) (.bool xr.s) rfl) (.string (bs xr.t)) rfl) (.int .i64 xr.n) rfl)
      have HR10 := Lib.hid (blk_keep HR9.out (grown_set (grown_set (grown_set (grown_set (grown_set (World.grownBy.refl w9 (some w3.heap.size)) 9 (.bool xr.v)) 10 (.string (bs xr.x))) 11 (.bool xr.s)) 12 (.string (bs xr.t))) 13 (.int .i64 xr.n)) (by have := HSZ.out; simp; omega))
      have HG10 := Lib.hid (grown_setNew (T := w3.heap.size) (grown_setNew (T := w3.heap.size) (grown_setNew (T := w3.heap.size) (grown_setNew (T := w3.heap.size) (grown_setNew (T := w3.heap.size) HG9.out (by have := HSZ.out; omega) 9 (.bool xr.v)) (by have := HSZ.out; omega) 10 (.string (bs xr.x))) (by have := HSZ.out; omega) 11 (.bool xr.s)) (by have := HSZ.out; omega) 12 (.string (bs xr.t))) (by have := HSZ.out; omega) 13 (.int .i64 xr.n))
      have HGOT10 := Lib.hid (hgot9.step (grown_set (grown_set (grown_set (grown_set (grown_set (World.grownBy.refl w9 (some w3.heap.size)) 9 (.bool xr.v)) 10 (.string (bs xr.x))) 11 (.bool xr.s)) 12 (.string (bs xr.t))) 13 (.int .i64 xr.n)) (fun k hk => by cases hk; exact ⟨by have := HLT3.out; omega, _, _, _, HL9.out, by decide⟩))
      have l_0 := cell_of_row (((((w9.setCell ⟨w3.heap.size, 9, none⟩ (.bool xr.v)).setCell ⟨w3.heap.size, 10, none⟩ (.string (bs xr.x))).setCell ⟨w3.heap.size, 11, none⟩ (.bool xr.s)).setCell ⟨w3.heap.size, 12, none⟩ (.string (bs xr.t))).setCell ⟨w3.heap.size, 13, none⟩ (.int .i64 xr.n)) (w3.heap.size) 0 _ _ _ HL10.out
      have l_1 := cell_of_row (((((w9.setCell ⟨w3.heap.size, 9, none⟩ (.bool xr.v)).setCell ⟨w3.heap.size, 10, none⟩ (.string (bs xr.x))).setCell ⟨w3.heap.size, 11, none⟩ (.bool xr.s)).setCell ⟨w3.heap.size, 12, none⟩ (.string (bs xr.t))).setCell ⟨w3.heap.size, 13, none⟩ (.int .i64 xr.n)) (w3.heap.size) 1 _ _ _ HL10.out
      have l_2 := cell_of_row (((((w9.setCell ⟨w3.heap.size, 9, none⟩ (.bool xr.v)).setCell ⟨w3.heap.size, 10, none⟩ (.string (bs xr.x))).setCell ⟨w3.heap.size, 11, none⟩ (.bool xr.s)).setCell ⟨w3.heap.size, 12, none⟩ (.string (bs xr.t))).setCell ⟨w3.heap.size, 13, none⟩ (.int .i64 xr.n)) (w3.heap.size) 2 _ _ _ HL10.out
      have l_3 := cell_of_row (((((w9.setCell ⟨w3.heap.size, 9, none⟩ (.bool xr.v)).setCell ⟨w3.heap.size, 10, none⟩ (.string (bs xr.x))).setCell ⟨w3.heap.size, 11, none⟩ (.bool xr.s)).setCell ⟨w3.heap.size, 12, none⟩ (.string (bs xr.t))).setCell ⟨w3.heap.size, 13, none⟩ (.int .i64 xr.n)) (w3.heap.size) 3 _ _ _ HL10.out
      have l_4 := cell_of_row (((((w9.setCell ⟨w3.heap.size, 9, none⟩ (.bool xr.v)).setCell ⟨w3.heap.size, 10, none⟩ (.string (bs xr.x))).setCell ⟨w3.heap.size, 11, none⟩ (.bool xr.s)).setCell ⟨w3.heap.size, 12, none⟩ (.string (bs xr.t))).setCell ⟨w3.heap.size, 13, none⟩ (.int .i64 xr.n)) (w3.heap.size) 4 _ _ _ HL10.out
      have l_5 := cell_of_row (((((w9.setCell ⟨w3.heap.size, 9, none⟩ (.bool xr.v)).setCell ⟨w3.heap.size, 10, none⟩ (.string (bs xr.x))).setCell ⟨w3.heap.size, 11, none⟩ (.bool xr.s)).setCell ⟨w3.heap.size, 12, none⟩ (.string (bs xr.t))).setCell ⟨w3.heap.size, 13, none⟩ (.int .i64 xr.n)) (w3.heap.size) 5 _ _ _ HL10.out
      have l_6 := cell_of_row (((((w9.setCell ⟨w3.heap.size, 9, none⟩ (.bool xr.v)).setCell ⟨w3.heap.size, 10, none⟩ (.string (bs xr.x))).setCell ⟨w3.heap.size, 11, none⟩ (.bool xr.s)).setCell ⟨w3.heap.size, 12, none⟩ (.string (bs xr.t))).setCell ⟨w3.heap.size, 13, none⟩ (.int .i64 xr.n)) (w3.heap.size) 6 _ _ _ HL10.out
      have l_7 := cell_of_row (((((w9.setCell ⟨w3.heap.size, 9, none⟩ (.bool xr.v)).setCell ⟨w3.heap.size, 10, none⟩ (.string (bs xr.x))).setCell ⟨w3.heap.size, 11, none⟩ (.bool xr.s)).setCell ⟨w3.heap.size, 12, none⟩ (.string (bs xr.t))).setCell ⟨w3.heap.size, 13, none⟩ (.int .i64 xr.n)) (w3.heap.size) 7 _ _ _ HL10.out
      have l_8 := cell_of_row (((((w9.setCell ⟨w3.heap.size, 9, none⟩ (.bool xr.v)).setCell ⟨w3.heap.size, 10, none⟩ (.string (bs xr.x))).setCell ⟨w3.heap.size, 11, none⟩ (.bool xr.s)).setCell ⟨w3.heap.size, 12, none⟩ (.string (bs xr.t))).setCell ⟨w3.heap.size, 13, none⟩ (.int .i64 xr.n)) (w3.heap.size) 8 _ _ _ HL10.out
      have l_9 := cell_of_row (((((w9.setCell ⟨w3.heap.size, 9, none⟩ (.bool xr.v)).setCell ⟨w3.heap.size, 10, none⟩ (.string (bs xr.x))).setCell ⟨w3.heap.size, 11, none⟩ (.bool xr.s)).setCell ⟨w3.heap.size, 12, none⟩ (.string (bs xr.t))).setCell ⟨w3.heap.size, 13, none⟩ (.int .i64 xr.n)) (w3.heap.size) 9 _ _ _ HL10.out
      have l_10 := cell_of_row (((((w9.setCell ⟨w3.heap.size, 9, none⟩ (.bool xr.v)).setCell ⟨w3.heap.size, 10, none⟩ (.string (bs xr.x))).setCell ⟨w3.heap.size, 11, none⟩ (.bool xr.s)).setCell ⟨w3.heap.size, 12, none⟩ (.string (bs xr.t))).setCell ⟨w3.heap.size, 13, none⟩ (.int .i64 xr.n)) (w3.heap.size) 10 _ _ _ HL10.out
      have l_11 := cell_of_row (((((w9.setCell ⟨w3.heap.size, 9, none⟩ (.bool xr.v)).setCell ⟨w3.heap.size, 10, none⟩ (.string (bs xr.x))).setCell ⟨w3.heap.size, 11, none⟩ (.bool xr.s)).setCell ⟨w3.heap.size, 12, none⟩ (.string (bs xr.t))).setCell ⟨w3.heap.size, 13, none⟩ (.int .i64 xr.n)) (w3.heap.size) 11 _ _ _ HL10.out
      have l_12 := cell_of_row (((((w9.setCell ⟨w3.heap.size, 9, none⟩ (.bool xr.v)).setCell ⟨w3.heap.size, 10, none⟩ (.string (bs xr.x))).setCell ⟨w3.heap.size, 11, none⟩ (.bool xr.s)).setCell ⟨w3.heap.size, 12, none⟩ (.string (bs xr.t))).setCell ⟨w3.heap.size, 13, none⟩ (.int .i64 xr.n)) (w3.heap.size) 12 _ _ _ HL10.out
      have l_13 := cell_of_row (((((w9.setCell ⟨w3.heap.size, 9, none⟩ (.bool xr.v)).setCell ⟨w3.heap.size, 10, none⟩ (.string (bs xr.x))).setCell ⟨w3.heap.size, 11, none⟩ (.bool xr.s)).setCell ⟨w3.heap.size, 12, none⟩ (.string (bs xr.t))).setCell ⟨w3.heap.size, 13, none⟩ (.int .i64 xr.n)) (w3.heap.size) 13 _ _ _ HL10.out
      have z_0 := cell_of_row (((((w9.setCell ⟨w3.heap.size, 9, none⟩ (.bool xr.v)).setCell ⟨w3.heap.size, 10, none⟩ (.string (bs xr.x))).setCell ⟨w3.heap.size, 11, none⟩ (.bool xr.s)).setCell ⟨w3.heap.size, 12, none⟩ (.string (bs xr.t))).setCell ⟨w3.heap.size, 13, none⟩ (.int .i64 xr.n)) (w.heap.size) 0 _ _ _ HR10.out
      have z_1 := cell_of_row (((((w9.setCell ⟨w3.heap.size, 9, none⟩ (.bool xr.v)).setCell ⟨w3.heap.size, 10, none⟩ (.string (bs xr.x))).setCell ⟨w3.heap.size, 11, none⟩ (.bool xr.s)).setCell ⟨w3.heap.size, 12, none⟩ (.string (bs xr.t))).setCell ⟨w3.heap.size, 13, none⟩ (.int .i64 xr.n)) (w.heap.size) 1 _ _ _ HR10.out
      have z_2 := cell_of_row (((((w9.setCell ⟨w3.heap.size, 9, none⟩ (.bool xr.v)).setCell ⟨w3.heap.size, 10, none⟩ (.string (bs xr.x))).setCell ⟨w3.heap.size, 11, none⟩ (.bool xr.s)).setCell ⟨w3.heap.size, 12, none⟩ (.string (bs xr.t))).setCell ⟨w3.heap.size, 13, none⟩ (.int .i64 xr.n)) (w.heap.size) 2 _ _ _ HR10.out
      have z_3 := cell_of_row (((((w9.setCell ⟨w3.heap.size, 9, none⟩ (.bool xr.v)).setCell ⟨w3.heap.size, 10, none⟩ (.string (bs xr.x))).setCell ⟨w3.heap.size, 11, none⟩ (.bool xr.s)).setCell ⟨w3.heap.size, 12, none⟩ (.string (bs xr.t))).setCell ⟨w3.heap.size, 13, none⟩ (.int .i64 xr.n)) (w.heap.size) 3 _ _ _ HR10.out
      have z_4 := cell_of_row (((((w9.setCell ⟨w3.heap.size, 9, none⟩ (.bool xr.v)).setCell ⟨w3.heap.size, 10, none⟩ (.string (bs xr.x))).setCell ⟨w3.heap.size, 11, none⟩ (.bool xr.s)).setCell ⟨w3.heap.size, 12, none⟩ (.string (bs xr.t))).setCell ⟨w3.heap.size, 13, none⟩ (.int .i64 xr.n)) (w.heap.size) 4 _ _ _ HR10.out
      have z_5 := cell_of_row (((((w9.setCell ⟨w3.heap.size, 9, none⟩ (.bool xr.v)).setCell ⟨w3.heap.size, 10, none⟩ (.string (bs xr.x))).setCell ⟨w3.heap.size, 11, none⟩ (.bool xr.s)).setCell ⟨w3.heap.size, 12, none⟩ (.string (bs xr.t))).setCell ⟨w3.heap.size, 13, none⟩ (.int .i64 xr.n)) (w.heap.size) 5 _ _ _ HR10.out
      have z_6 := cell_of_row (((((w9.setCell ⟨w3.heap.size, 9, none⟩ (.bool xr.v)).setCell ⟨w3.heap.size, 10, none⟩ (.string (bs xr.x))).setCell ⟨w3.heap.size, 11, none⟩ (.bool xr.s)).setCell ⟨w3.heap.size, 12, none⟩ (.string (bs xr.t))).setCell ⟨w3.heap.size, 13, none⟩ (.int .i64 xr.n)) (w.heap.size) 6 _ _ _ HR10.out
      have z_7 := cell_of_row (((((w9.setCell ⟨w3.heap.size, 9, none⟩ (.bool xr.v)).setCell ⟨w3.heap.size, 10, none⟩ (.string (bs xr.x))).setCell ⟨w3.heap.size, 11, none⟩ (.bool xr.s)).setCell ⟨w3.heap.size, 12, none⟩ (.string (bs xr.t))).setCell ⟨w3.heap.size, 13, none⟩ (.int .i64 xr.n)) (w.heap.size) 7 _ _ _ HR10.out
      have z_8 := cell_of_row (((((w9.setCell ⟨w3.heap.size, 9, none⟩ (.bool xr.v)).setCell ⟨w3.heap.size, 10, none⟩ (.string (bs xr.x))).setCell ⟨w3.heap.size, 11, none⟩ (.bool xr.s)).setCell ⟨w3.heap.size, 12, none⟩ (.string (bs xr.t))).setCell ⟨w3.heap.size, 13, none⟩ (.int .i64 xr.n)) (w.heap.size) 8 _ _ _ HR10.out
      have z_9 := cell_of_row (((((w9.setCell ⟨w3.heap.size, 9, none⟩ (.bool xr.v)).setCell ⟨w3.heap.size, 10, none⟩ (.string (bs xr.x))).setCell ⟨w3.heap.size, 11, none⟩ (.bool xr.s)).setCell ⟨w3.heap.size, 12, none⟩ (.string (bs xr.t))).setCell ⟨w3.heap.size, 13, none⟩ (.int .i64 xr.n)) (w.heap.size) 9 _ _ _ HR10.out
      have z_10 := cell_of_row (((((w9.setCell ⟨w3.heap.size, 9, none⟩ (.bool xr.v)).setCell ⟨w3.heap.size, 10, none⟩ (.string (bs xr.x))).setCell ⟨w3.heap.size, 11, none⟩ (.bool xr.s)).setCell ⟨w3.heap.size, 12, none⟩ (.string (bs xr.t))).setCell ⟨w3.heap.size, 13, none⟩ (.int .i64 xr.n)) (w.heap.size) 10 _ _ _ HR10.out
      have z_11 := cell_of_row (((((w9.setCell ⟨w3.heap.size, 9, none⟩ (.bool xr.v)).setCell ⟨w3.heap.size, 10, none⟩ (.string (bs xr.x))).setCell ⟨w3.heap.size, 11, none⟩ (.bool xr.s)).setCell ⟨w3.heap.size, 12, none⟩ (.string (bs xr.t))).setCell ⟨w3.heap.size, 13, none⟩ (.int .i64 xr.n)) (w.heap.size) 11 _ _ _ HR10.out
      have z_12 := cell_of_row (((((w9.setCell ⟨w3.heap.size, 9, none⟩ (.bool xr.v)).setCell ⟨w3.heap.size, 10, none⟩ (.string (bs xr.x))).setCell ⟨w3.heap.size, 11, none⟩ (.bool xr.s)).setCell ⟨w3.heap.size, 12, none⟩ (.string (bs xr.t))).setCell ⟨w3.heap.size, 13, none⟩ (.int .i64 xr.n)) (w.heap.size) 12 _ _ _ HR10.out
      have z_13 := cell_of_row (((((w9.setCell ⟨w3.heap.size, 9, none⟩ (.bool xr.v)).setCell ⟨w3.heap.size, 10, none⟩ (.string (bs xr.x))).setCell ⟨w3.heap.size, 11, none⟩ (.bool xr.s)).setCell ⟨w3.heap.size, 12, none⟩ (.string (bs xr.t))).setCell ⟨w3.heap.size, 13, none⟩ (.int .i64 xr.n)) (w.heap.size) 13 _ _ _ HR10.out
      have yz_0 := frozen_of_row (((((w9.setCell ⟨w3.heap.size, 9, none⟩ (.bool xr.v)).setCell ⟨w3.heap.size, 10, none⟩ (.string (bs xr.x))).setCell ⟨w3.heap.size, 11, none⟩ (.bool xr.s)).setCell ⟨w3.heap.size, 12, none⟩ (.string (bs xr.t))).setCell ⟨w3.heap.size, 13, none⟩ (.int .i64 xr.n)) (w.heap.size) 0 _ _ HR10.out
      have yz_1 := frozen_of_row (((((w9.setCell ⟨w3.heap.size, 9, none⟩ (.bool xr.v)).setCell ⟨w3.heap.size, 10, none⟩ (.string (bs xr.x))).setCell ⟨w3.heap.size, 11, none⟩ (.bool xr.s)).setCell ⟨w3.heap.size, 12, none⟩ (.string (bs xr.t))).setCell ⟨w3.heap.size, 13, none⟩ (.int .i64 xr.n)) (w.heap.size) 1 _ _ HR10.out
      have yz_2 := frozen_of_row (((((w9.setCell ⟨w3.heap.size, 9, none⟩ (.bool xr.v)).setCell ⟨w3.heap.size, 10, none⟩ (.string (bs xr.x))).setCell ⟨w3.heap.size, 11, none⟩ (.bool xr.s)).setCell ⟨w3.heap.size, 12, none⟩ (.string (bs xr.t))).setCell ⟨w3.heap.size, 13, none⟩ (.int .i64 xr.n)) (w.heap.size) 2 _ _ HR10.out
      have yz_3 := frozen_of_row (((((w9.setCell ⟨w3.heap.size, 9, none⟩ (.bool xr.v)).setCell ⟨w3.heap.size, 10, none⟩ (.string (bs xr.x))).setCell ⟨w3.heap.size, 11, none⟩ (.bool xr.s)).setCell ⟨w3.heap.size, 12, none⟩ (.string (bs xr.t))).setCell ⟨w3.heap.size, 13, none⟩ (.int .i64 xr.n)) (w.heap.size) 3 _ _ HR10.out
      have yz_4 := frozen_of_row (((((w9.setCell ⟨w3.heap.size, 9, none⟩ (.bool xr.v)).setCell ⟨w3.heap.size, 10, none⟩ (.string (bs xr.x))).setCell ⟨w3.heap.size, 11, none⟩ (.bool xr.s)).setCell ⟨w3.heap.size, 12, none⟩ (.string (bs xr.t))).setCell ⟨w3.heap.size, 13, none⟩ (.int .i64 xr.n)) (w.heap.size) 4 _ _ HR10.out
      have yz_5 := frozen_of_row (((((w9.setCell ⟨w3.heap.size, 9, none⟩ (.bool xr.v)).setCell ⟨w3.heap.size, 10, none⟩ (.string (bs xr.x))).setCell ⟨w3.heap.size, 11, none⟩ (.bool xr.s)).setCell ⟨w3.heap.size, 12, none⟩ (.string (bs xr.t))).setCell ⟨w3.heap.size, 13, none⟩ (.int .i64 xr.n)) (w.heap.size) 5 _ _ HR10.out
      have yz_6 := frozen_of_row (((((w9.setCell ⟨w3.heap.size, 9, none⟩ (.bool xr.v)).setCell ⟨w3.heap.size, 10, none⟩ (.string (bs xr.x))).setCell ⟨w3.heap.size, 11, none⟩ (.bool xr.s)).setCell ⟨w3.heap.size, 12, none⟩ (.string (bs xr.t))).setCell ⟨w3.heap.size, 13, none⟩ (.int .i64 xr.n)) (w.heap.size) 6 _ _ HR10.out
      have yz_7 := frozen_of_row (((((w9.setCell ⟨w3.heap.size, 9, none⟩ (.bool xr.v)).setCell ⟨w3.heap.size, 10, none⟩ (.string (bs xr.x))).setCell ⟨w3.heap.size, 11, none⟩ (.bool xr.s)).setCell ⟨w3.heap.size, 12, none⟩ (.string (bs xr.t))).setCell ⟨w3.heap.size, 13, none⟩ (.int .i64 xr.n)) (w.heap.size) 7 _ _ HR10.out
      have yz_8 := frozen_of_row (((((w9.setCell ⟨w3.heap.size, 9, none⟩ (.bool xr.v)).setCell ⟨w3.heap.size, 10, none⟩ (.string (bs xr.x))).setCell ⟨w3.heap.size, 11, none⟩ (.bool xr.s)).setCell ⟨w3.heap.size, 12, none⟩ (.string (bs xr.t))).setCell ⟨w3.heap.size, 13, none⟩ (.int .i64 xr.n)) (w.heap.size) 8 _ _ HR10.out
      have yz_9 := frozen_of_row (((((w9.setCell ⟨w3.heap.size, 9, none⟩ (.bool xr.v)).setCell ⟨w3.heap.size, 10, none⟩ (.string (bs xr.x))).setCell ⟨w3.heap.size, 11, none⟩ (.bool xr.s)).setCell ⟨w3.heap.size, 12, none⟩ (.string (bs xr.t))).setCell ⟨w3.heap.size, 13, none⟩ (.int .i64 xr.n)) (w.heap.size) 9 _ _ HR10.out
      have yz_10 := frozen_of_row (((((w9.setCell ⟨w3.heap.size, 9, none⟩ (.bool xr.v)).setCell ⟨w3.heap.size, 10, none⟩ (.string (bs xr.x))).setCell ⟨w3.heap.size, 11, none⟩ (.bool xr.s)).setCell ⟨w3.heap.size, 12, none⟩ (.string (bs xr.t))).setCell ⟨w3.heap.size, 13, none⟩ (.int .i64 xr.n)) (w.heap.size) 10 _ _ HR10.out
      have yz_11 := frozen_of_row (((((w9.setCell ⟨w3.heap.size, 9, none⟩ (.bool xr.v)).setCell ⟨w3.heap.size, 10, none⟩ (.string (bs xr.x))).setCell ⟨w3.heap.size, 11, none⟩ (.bool xr.s)).setCell ⟨w3.heap.size, 12, none⟩ (.string (bs xr.t))).setCell ⟨w3.heap.size, 13, none⟩ (.int .i64 xr.n)) (w.heap.size) 11 _ _ HR10.out
      have yz_12 := frozen_of_row (((((w9.setCell ⟨w3.heap.size, 9, none⟩ (.bool xr.v)).setCell ⟨w3.heap.size, 10, none⟩ (.string (bs xr.x))).setCell ⟨w3.heap.size, 11, none⟩ (.bool xr.s)).setCell ⟨w3.heap.size, 12, none⟩ (.string (bs xr.t))).setCell ⟨w3.heap.size, 13, none⟩ (.int .i64 xr.n)) (w.heap.size) 12 _ _ HR10.out
      have yz_13 := frozen_of_row (((((w9.setCell ⟨w3.heap.size, 9, none⟩ (.bool xr.v)).setCell ⟨w3.heap.size, 10, none⟩ (.string (bs xr.x))).setCell ⟨w3.heap.size, 11, none⟩ (.bool xr.s)).setCell ⟨w3.heap.size, 12, none⟩ (.string (bs xr.t))).setCell ⟨w3.heap.size, 13, none⟩ (.int .i64 xr.n)) (w.heap.size) 13 _ _ HR10.out
      clear hg9 hgot9
      go_wp2_with fail
      have hset := litSet_block HR10.out (.int .i64 3) (.string ⟨#[]⟩) (.slice none 0 0) (.string (bs s2)) (.bool xl.v) (.string (bs xl.x)) (.bool xl.s) (.string (bs xl.t)) (.int .i64 xl.n) (.bool xr.v) (.string (bs xr.x)) (.bool xr.s) (.string (bs xr.t)) (.int .i64 xr.n)
      have q0 := cell_of_row _ _ 0 _ _ _ hset
      have q1 := cell_of_row _ _ 1 _ _ _ hset
      have q2 := cell_of_row _ _ 2 _ _ _ hset
      have q3 := cell_of_row _ _ 3 _ _ _ hset
      have q4 := cell_of_row _ _ 4 _ _ _ hset
      have q5 := cell_of_row _ _ 5 _ _ _ hset
      have q6 := cell_of_row _ _ 6 _ _ _ hset
      have q7 := cell_of_row _ _ 7 _ _ _ hset
      have q8 := cell_of_row _ _ 8 _ _ _ hset
      have q9 := cell_of_row _ _ 9 _ _ _ hset
      have q10 := cell_of_row _ _ 10 _ _ _ hset
      have q11 := cell_of_row _ _ 11 _ _ _ hset
      have q12 := cell_of_row _ _ 12 _ _ _ hset
      have q13 := cell_of_row _ _ 13 _ _ _ hset
      have hsz := HG2.out.size
      have hkT := litSet_self (T := w.heap.size) (((((w9.setCell ⟨w3.heap.size, 9, none⟩ (.bool xr.v)).setCell ⟨w3.heap.size, 10, none⟩ (.string (bs xr.x))).setCell ⟨w3.heap.size, 11, none⟩ (.bool xr.s)).setCell ⟨w3.heap.size, 12, none⟩ (.string (bs xr.t))).setCell ⟨w3.heap.size, 13, none⟩ (.int .i64 xr.n)) (.int .i64 3) (.string ⟨#[]⟩) (.slice none 0 0) (.string (bs s2)) (.bool xl.v) (.string (bs xl.x)) (.bool xl.s) (.string (bs xl.t)) (.int .i64 xl.n) (.bool xr.v) (.string (bs xr.x)) (.bool xr.s) (.string (bs xr.t)) (.int .i64 xr.n)
      refine bodyPost_ret (v := .agg #[.int .i64 3, .string ⟨#[]⟩, .slice none 0 0, .string (bs s2), .bool xl.v, .string (bs xl.x), .bool xl.s, .string (bs xl.t), .int .i64 xl.n, .bool xr.v, .string (bs xr.x), .bool xr.s, .string (bs xr.t), .int .i64 xr.n]) (by simp [results, Tryz.results88, go_sem, q0, q1, q2, q3, q4, q5, q6, q7, q8, q9, q10, q11, q12, q13]) rfl ⟨grown_litSet (HG10.out) (Nat.le_refl _) (.int .i64 3) (.string ⟨#[]⟩) (.slice none 0 0) (.string (bs s2)) (.bool xl.v) (.string (bs xl.x)) (.bool xl.s) (.string (bs xl.t)) (.int .i64 xl.n) (.bool xr.v) (.string (bs xr.x)) (.bool xr.s) (.string (bs xr.t)) (.int .i64 xr.n), ⟨3, atom0, s2, xl, xr⟩, .slice none 0 0, rfl, World.ownsRow_nil _ _ _ _, ?_⟩
      rw [HG0.out]
      have hg := HGOT10.out
      rw [HTL2.out] at hg
      exact (hg.map _ (by omega) (fun y hy => by rw [hy, HXX.out])).step hkT (fun k hk => by cases hk; exact ⟨by have := HLT.out; omega, _, _, _, HR10.out, by decide⟩)

end Go.Proofs.YtminbdcabacfbaaGreatDoor.V

namespace Go.Proofs.YtminbdcabacfbaaGreatDoor.V
set_option linter.unusedVariables false
set_option linter.unusedSimpArgs false
open Go.RowKit

theorem literal_calls {P : Nat} {L : List TP} {N : Nat} {A : Option Addr} {c : Nat} {r : List TP} (w : World) (h : PO P L N A c r w) (hmax : ∀ p ∈ L, p.1.s.length ≤ 65536) :
    Calls Tryz.prog 88 #[.pointer (some ⟨P, 0, none⟩)] w fun e w' => w.grownBy w' (some P) ∧ ∃ x v, e = .returned (.agg (litC x v).toArray) ∧ TermsAt w.heap.size w' x.a.a v ∧ PGot P L N A c 65700 (litP N r) (fun y => y = x) w' := by
  obtain ⟨nx, hnx, rfl, hS⟩ := h
  obtain ⟨⟨⟨k, s, n, q⟩, a⟩, hp⟩ : ∃ p, pk N (L.drop nx) 0 = p := ⟨_, rfl⟩
  obtain ⟨K, hK⟩ : ∃ K : Int, (k : Int) = K := ⟨_, rfl⟩
  cases h1 : (K == 1) with
  | false => exact lit_k1 w hnx hS hmax K k s n q a hp hK h1
  | true =>
    cases hq : q with
    | true => exact lit_qt w hnx hS hmax K k s n q a hp hK h1 hq
    | false =>
      cases hs : ((bs s).toList == [110, 111, 116]) with
      | true => exact lit_neg w hnx hS hmax K k s n q a hp hK h1 hq hs
      | false =>
        cases ho : isO N (L.drop nx) 1 with
        | true => exact lit_op w hnx hS hmax K k s n q a hp hK h1 hq hs ho
        | false => exact lit_pos w hnx hS hmax K k s n q a hp hK h1 hq hs ho
end Go.Proofs.YtminbdcabacfbaaGreatDoor.V

namespace Go.Proofs.YtminbdcabacfbaaGreatDoor.V
set_option linter.unusedVariables false
set_option linter.unusedSimpArgs false
open Go.RowKit

def litCells (ps : List (LitL × Value)) : List Value := ps.flatMap fun p => litC p.1 p.2
theorem litCells_snoc (ps : List (LitL × Value)) (p : LitL × Value) : litCells (ps ++ [p]) = litCells ps ++ litC p.1 p.2 := by simp [litCells]
theorem lit_info : (Tryz.prog.info? 47).map (fun i => (i.zero, i.size, i.bytes)) = some (some (.agg #[.int .i64 0, .string ⟨#[]⟩, .slice none 0 0, .string ⟨#[]⟩, .bool false, .string ⟨#[]⟩, .bool false, .string ⟨#[]⟩, .int .i64 0, .bool false, .string ⟨#[]⟩, .bool false, .string ⟨#[]⟩, .int .i64 0]), 14, 176) := by kernel_rfl
/-- A slice of literals, as it lies. -/
def LitsAt (base : Nat) (W : World) (l : List LitL) (v : Value) : Prop := ∃ ps : List (LitL × Value), ps.map (·.1) = l ∧ W.ownsRow base 47 14 v ps.length (litCells ps) ∧ ∀ p ∈ ps, TermsAt base W p.1.a.a p.2
theorem LitsAt.kept {base : Nat} {W W' : World} {l : List LitL} {v : Value} {row : Option Nat} (h : LitsAt base W l v) (hg : W.grownBy W' row) (hr : ∀ k, row = some k → k < base ∨ ∃ C t m, W.heap[k]? = some (.cells C t m) ∧ t ≠ 45 ∧ t ≠ 47) : LitsAt base W' l v := by
  obtain ⟨ps, h1, h2, h3⟩ := h
  refine ⟨ps, h1, h2.kept hg ?_, fun p hp => (h3 p hp).kept hg (fun k hk => ?_)⟩
  · cases hv : v.ownBlock with
    | none => exact .inl rfl
    | some g =>
      refine .inr (fun he => ?_)
      rcases hr g he.symm with h | ⟨C, t, m, hc, ht, ht2⟩
      · have := o_from h2 g hv
        omega
      · exact o_ne h2 hc (fun e => ht2 e.symm) hv.symm
  · rcases hr k hk with h | ⟨C, t, m, hc, ht, ht2⟩
    · exact .inl h
    · exact .inr ⟨C, t, m, hc, ht⟩
theorem TermsAt.base {B B' : Nat} {W : World} {l : List TermL} {v : Value} (h : TermsAt B W l v) (hB : B' ≤ B) : TermsAt B' W l v := o_base h hB

/-- What the closure of clause keeps. -/
structure BodyJ (P Rb Pb : Nat) (p : ByteArray) (va : Value) (w0 w : World) (acc : List LitL) : Prop where
  g : w0.grownBy w (some P)
  a : ∃ v, w.heap[Rb]? = some (.cells #[.string p, va, v] 50 (0, 0)) ∧ LitsAt w0.heap.size w acc v
  b : w.heap[Pb]? = some (.cells #[.pointer (some ⟨P, 0, none⟩)] 61 (0, 0))
theorem BodyJ.step {P Rb Pb : Nat} {p : ByteArray} {va : Value} {w0 w w' : World} {acc : List LitL} (h : BodyJ P Rb Pb p va w0 w acc) (hA : w0.heap.size ≤ Rb) (hB : Pb ≠ P) (hP : P < w0.heap.size) (hg : w.grownBy w' (some P)) : BodyJ P Rb Pb p va w0 w' acc := by
  obtain ⟨g, ⟨v, a1, a2⟩, b⟩ := h
  exact ⟨grown_trans g hg, ⟨v, blk_keep a1 hg (by simp; omega), a2.kept hg (fun k e => by cases e; exact .inl hP)⟩, blk_keep b hg (by simpa using hB)⟩

theorem en_body : ∀ args w, (callFunc 87 args).run Tryz.prog w = .ok (.enter 87 args) w := enters_of Tryz.func87 (by kernel_rfl) rfl

set_option maxRecDepth 100000 in
set_option maxHeartbeats 8000000 in
theorem body_calls {P Rb Pb : Nat} {p : ByteArray} {va : Value} {L : List TP} {N : Nat} {A : Option Addr} {c : Nat} {r : List TP} (w0 w : World) (acc : List LitL) (hP : P < w0.heap.size) (hA : w0.heap.size ≤ Rb) (hB : Pb ≠ P) (hl : acc.length ≤ 100) (hmax : ∀ p ∈ L, p.1.s.length ≤ 65536) (h : PO P L N A c r w) (hj : BodyJ P Rb Pb p va w0 w acc) :
    Calls Tryz.prog 87 #[.pointer (some ⟨Rb, 0, none⟩), .pointer (some ⟨Pb, 0, none⟩)] w fun e w' => e = .returned (.tuple #[]) ∧ ∃ x, BodyJ P Rb Pb p va w0 w' (acc ++ [x]) ∧ PGot P L N A c 65700 (litP N r) (fun y => y = x) w' := by
  obtain ⟨i0, hi, hz0, hz1, hz2⟩ := info_parts lit_info
  obtain ⟨g, ⟨v, a1, ps, hps, ho, hts⟩, b⟩ := hj
  obtain ⟨A1, c1, rfl⟩ := o_slice ho
  have hlen : ps.length = acc.length := by rw [← hps]; simp
  have s1 : w.cell? ⟨Rb, 2, none⟩ = some (.slice A1 ps.length c1) := cell_of_row w Rb 2 _ _ _ a1
  have sb : w.cell? ⟨Pb, 0, none⟩ = some (.pointer (some ⟨P, 0, none⟩)) := cell_of_row w Pb 0 _ _ _ b
  have H := Lib.hid h
  have HMAX := Lib.hid hmax
  have HA1 := Lib.hid a1
  have HA2 := Lib.hid ho
  have HTS := Lib.hid hts
  have HPS := Lib.hid hps
  have HLEN := Lib.hid hlen
  have HL := Lib.hid hl
  have HB := Lib.hid b
  have HG := Lib.hid g
  have HPA := Lib.hid hP
  have HHA := Lib.hid hA
  have HHB := Lib.hid hB
  clear h a1 ho hts b g hP hA hB hmax hps hlen hl
  go_enter Tryz.func87, Tryz.ntmps87
  go_wp2_with fail
  go_region_law (first
    | (go_simp; go_at_call 88; (refine (literal_calls _ (H.out.below (Below.refl _ _).drew) HMAX.out).mono ?_); rintro e W1 ⟨hg1, x, vx, he, htx, hgot⟩; obtain ⟨A2, c2, rfl⟩ := o_slice htx; have he2 : e = .returned (.agg #[.int .i64 (x.k : Int), .string (bs x.a.p), .slice A2 x.a.a.length c2, .string (bs x.o), .bool x.l.v, .string (bs x.l.x), .bool x.l.s, .string (bs x.l.t), .int .i64 x.l.n, .bool x.r.v, .string (bs x.r.x), .bool x.r.s, .string (bs x.r.t), .int .i64 x.r.n]) := he; subst he2; clear he; have hg1' := un_drew hg1; have ha1 := blk_keep HA1.out hg1' (by have := HHA.out; have := HPA.out; simp; omega); have hs1 : W1.cell? ⟨Rb, 2, none⟩ = some (.slice A1 ps.length c1) := cell_of_row W1 Rb 2 _ _ _ ha1; have hs2 := fun o => cell_below ((Below.refl W1.heap.size W1).alloc (Nat.le_refl _) o) hs1; have HW1 := Lib.hid hg1'; have HGOT := Lib.hid hgot; have HAW := Lib.hid ha1; have HTX := Lib.hid (TermsAt.base htx (show w0.heap.size ≤ w.drew.heap.size from HG.out.size)); have HA3 := Lib.hid (HA2.out.kept hg1' (by cases hv : Value.ownBlock (.slice A1 ps.length c1) with | none => exact .inl rfl | some j => exact .inr (fun e => by have := o_from HA2.out j hv; have := HPA.out; cases e; omega))); have hsz := hg1'.size; have hsz0 := HG.out.size; have HB1 := Lib.hid (blk_keep HB.out hg1' (by simpa using HHB.out)); clear hg1 hg1' hgot ha1 htx)
    | (refine step_append_lies _ rfl (.tmp 3) (.tmp 6) 48 rfl w0.heap.size 47 i0 (.agg #[.int .i64 0, .string ⟨#[]⟩, .slice none 0 0, .string ⟨#[]⟩, .bool false, .string ⟨#[]⟩, .bool false, .string ⟨#[]⟩, .int .i64 0, .bool false, .string ⟨#[]⟩, .bool false, .string ⟨#[]⟩, .int .i64 0]) 14 176 Tryz.underlying48 hi hz0 hz1 hz2 ?_ ?_ (.slice A1 ps.length c1) ps.length (litCells ps) ?_ ?_ ⟨W1.heap.size, 0, none⟩ 1 1 (litC x (.slice A2 x.a.a.length c2)) ?_ ?_ ?_ ?_ ?_ ?_ ?_ ?_ _ rfl ?_; rfl; decide; rfl; exact HA3.out.alloc _; rfl; rfl; exact o_cells #[.int .i64 (x.k : Int), .string (bs x.a.p), .slice A2 x.a.a.length c2, .string (bs x.o), .bool x.l.v, .string (bs x.l.x), .bool x.l.s, .string (bs x.l.t), .int .i64 x.l.n, .bool x.r.v, .string (bs x.r.x), .bool x.r.s, .string (bs x.r.t), .int .i64 x.r.n] 47; (intro u hu; simp [litC] at hu; rcases hu with rfl | rfl | rfl | rfl | rfl | rfl | rfl | rfl | rfl | rfl | rfl | rfl | rfl | rfl <;> rfl); decide; (have := HLEN.out; have := HL.out; unfold maxLen; omega); (have := HLEN.out; have := HL.out; omega); (simp; omega); intro g cap W3 hown hgrow hat hlt; have hgW := grown_trans (World.grownBy_alloc W1 (.cells #[.int .i64 (x.k : Int), .string (bs x.a.p), .slice A2 x.a.a.length c2, .string (bs x.o), .bool x.l.v, .string (bs x.l.x), .bool x.l.s, .string (bs x.l.t), .int .i64 x.l.n, .bool x.r.v, .string (bs x.r.x), .bool x.r.s, .string (bs x.r.t), .int .i64 x.r.n] 47) _) hgrow; have ha3 := blk_keep HAW.out hgW (o_ne HA3.out HAW.out (by decide)); have hs3 : W3.cell? ⟨Rb, 2, none⟩ = some (.slice A1 ps.length c1) := cell_of_row W3 Rb 2 _ _ _ ha3; have hf3 := frozen_of_row W3 Rb 2 _ _ ha3; have HA4 := Lib.hid ha3; have HOWN := Lib.hid hown; have HGW := Lib.hid hgW; clear hown hgrow hat hlt hgW ha3))
  all_goals
    have hAne : Rb ≠ Pb := fun he => by
      have h1 := HAW.out
      rw [he, HB1.out] at h1
      injection h1 with h1
      injection h1 with _ h2 _
      exact absurd h2 (by decide)
    have hown := HOWN.out
    rw [← litCells_snoc ps (x, Value.slice A2 x.a.a.length c2)] at hown
    have hne3 := o_ne hown HA4.out (by decide)
    have hgS := grown_set (World.grownBy.refl W3 (some Rb)) 2 (.slice (some ⟨g, 0, none⟩) (ps.length + 1) cap)
    have hb3 := blk_keep HB1.out HGW.out (o_ne HA3.out HB1.out (by decide))
    have hkeep : ∀ l u, TermsAt w0.heap.size W1 l u → TermsAt w0.heap.size (W3.setCell ⟨Rb, 2, none⟩ (.slice (some ⟨g, 0, none⟩) (ps.length + 1) cap)) l u := fun l u ht =>
      (ht.kept HGW.out (fun k hk => by obtain ⟨C, t, m, hc, ht⟩ := o_block HA3.out k hk; exact .inr ⟨C, t, m, hc, by rw [ht]; decide⟩)).kept hgS (fun k hk => by cases hk; exact .inr ⟨_, _, _, HA4.out, by decide⟩)
    go_end0
    refine ⟨rfl, x, ⟨?_, ⟨_, set_block HA4.out _, ps ++ [(x, Value.slice A2 x.a.a.length c2)], ?_, ?_, ?_⟩, ?_⟩, ?_⟩
    · exact grown_setNew (o_grown (grown_trans HG.out HW1.out) HGW.out (fun j hj => o_from HA3.out j hj)) HHA.out _ _
    · rw [List.map_append, HPS.out]
      rfl
    · refine World.ownsRow.kept (n := (ps ++ [(x, Value.slice A2 x.a.a.length c2)]).length) ?_ hgS (.inr (Ne.symm hne3))
      rw [List.length_append, List.length_singleton]
      exact hown
    · intro p hp
      rcases List.mem_append.1 hp with hp | hp
      · exact hkeep _ _ ((HTS.out p hp).kept HW1.out (fun k hk => by cases hk; exact .inl HPA.out))
      · rw [List.mem_singleton.1 hp]
        exact hkeep _ _ HTX.out
    · exact blk_keep hb3 hgS (by simp; exact fun e => hAne e.symm)
    · refine PGot.step (PGot.step HGOT.out HGW.out (fun k hk => ⟨by have := o_from HA3.out k hk; have := HPA.out; omega, ?_⟩)) hgS (fun k hk => ?_)
      · obtain ⟨C, t, m, hc, ht⟩ := o_block HA3.out k hk
        exact ⟨C, t, m, hc, by rw [ht]; decide⟩
      · cases hk
        exact ⟨by have := HPA.out; have := HHA.out; omega, _, _, _, HA4.out, by decide⟩
end Go.Proofs.YtminbdcabacfbaaGreatDoor.V

namespace Go.Proofs.YtminbdcabacfbaaGreatDoor.V
set_option linter.unusedVariables false
set_option linter.unusedSimpArgs false
open Go.RowKit

def declC (d : DeclL) : List Value := [.string (bs d.p), .int .i64 d.n]
def DeclsAt (base : Nat) (W : World) (ds : List DeclL) (v : Value) : Prop := W.ownsRow base 86 2 v ds.length (ds.flatMap declC)
def ruleC (q : RuleL × Value × Value) : List Value := [.string (bs q.1.h.p), q.2.1, q.2.2]
def RulesAt (base : Nat) (W : World) (rs : List RuleL) (v : Value) : Prop := ∃ qs : List (RuleL × Value × Value), qs.map (·.1) = rs ∧ W.ownsRow base 50 3 v qs.length (qs.flatMap ruleC) ∧ ∀ q ∈ qs, TermsAt base W q.1.h.a q.2.1 ∧ LitsAt base W q.1.b q.2.2
theorem o_keptR {W W' : World} {B e z n : Nat} {v : Value} {xs : List Value} {row : Option Nat} (h : W.ownsRow B e z v n xs) (hg : W.grownBy W' row) (hr : ∀ k, row = some k → k < B ∨ ∃ C t m, W.heap[k]? = some (.cells C t m) ∧ t ≠ e) : W'.ownsRow B e z v n xs := by
  refine h.kept hg ?_
  cases hv : v.ownBlock with
  | none => exact .inl rfl
  | some g =>
    refine .inr (fun he => ?_)
    rcases hr g he.symm with h1 | ⟨C, t, m, hc, ht⟩
    · have := o_from h g hv
      omega
    · exact o_ne h hc (fun e => ht e.symm) hv.symm
theorem DeclsAt.kept {base : Nat} {W W' : World} {l : List DeclL} {v : Value} {row : Option Nat} (h : DeclsAt base W l v) (hg : W.grownBy W' row) (hr : ∀ k, row = some k → k < base ∨ ∃ C t m, W.heap[k]? = some (.cells C t m) ∧ t ≠ 86) : DeclsAt base W' l v := o_keptR h hg hr
theorem RulesAt.kept {base : Nat} {W W' : World} {l : List RuleL} {v : Value} {row : Option Nat} (h : RulesAt base W l v) (hg : W.grownBy W' row) (hr : ∀ k, row = some k → k < base ∨ ∃ C t m, W.heap[k]? = some (.cells C t m) ∧ t ≠ 45 ∧ t ≠ 47 ∧ t ≠ 50) : RulesAt base W' l v := by
  obtain ⟨qs, h1, h2, h3⟩ := h
  refine ⟨qs, h1, o_keptR h2 hg (fun k hk => ?_), fun q hq => ⟨(h3 q hq).1.kept hg (fun k hk => ?_), (h3 q hq).2.kept hg (fun k hk => ?_)⟩⟩
  all_goals
    rcases hr k hk with h | ⟨C, t, m, hc, t1, t2, t3⟩
    · exact .inl h
    · exact .inr ⟨C, t, m, hc, by first | exact t3 | exact t1 | exact ⟨t1, t2⟩⟩
/-- A program's block. -/
structure GAt (base G : Nat) (W : World) (ds : List DeclL) (rs : List RuleL) (Ad Ar : Option Addr) (cd cr : Nat) : Prop where
  b : W.heap[G]? = some (.cells #[.slice Ad ds.length cd, .slice Ar rs.length cr] 36 (0, 0))
  d : DeclsAt base W ds (.slice Ad ds.length cd)
  r : RulesAt base W rs (.slice Ar rs.length cr)
theorem GAt.kept {base G : Nat} {W W' : World} {ds : List DeclL} {rs : List RuleL} {Ad Ar : Option Addr} {cd cr P : Nat} (h : GAt base G W ds rs Ad Ar cd cr) (hg : W.grownBy W' (some P)) (hP : P < base) (hGP : G ≠ P) : GAt base G W' ds rs Ad Ar cd cr :=
  ⟨blk_keep h.b hg (by simpa using hGP), h.d.kept hg (fun k hk => by cases hk; exact .inl hP), h.r.kept hg (fun k hk => by cases hk; exact .inl hP)⟩
def clauseM (N : Nat) (ds : List DeclL) (rs : List RuleL) (r : List TP) : Par (List DeclL × List RuleL) :=
  if isM N r 1 [47] then (if ds.length == 400 then .bad (pk N r 0).2 4 else (declP N r).map fun d => (ds ++ [d], rs))
  else (if rs.length == 400 then .bad (pk N r 0).2 4 else (ruleP N r).map fun c => (ds, rs ++ [c]))
theorem progT_step (N : Nat) (ds : List DeclL) (rs : List RuleL) (x : TP) (r : List TP) : progT N ds rs (x :: r) = match clauseM N ds rs (x :: r) with
    | .bad a e => .bad a e
    | .ok g r1 => progT N g.1 g.2 r1 := by
  rw [progT_cons]
  unfold clauseM
  have hpk : (pk N (x :: r) 0).2 = x.2 := rfl
  rw [hpk]
  split
  · split
    · rfl
    · cases declP N (x :: r) <;> rfl
  · split
    · rfl
    · cases ruleP N (x :: r) <;> rfl
theorem mark_rel {α : Type} {P : Nat} {L : List TP} {N : Nat} {A : Option Addr} {c mm : Nat} {W : World} {m : List UInt8} {r : List TP} (x : α) (h : PGot P L N A c mm (markP N m () r) (fun _ => True) W) : PGot P L N A c mm (markP N m x r) (fun y => y = x) W := by
  unfold markP at *
  split
  · rename_i hc
    rw [if_pos hc] at h
    exact ⟨rfl, h.2⟩
  · rename_i hc
    rw [if_neg hc] at h
    exact h
theorem decl_info : (Tryz.prog.info? 86).map (fun i => (i.zero, i.size, i.bytes)) = some (some (.agg #[.string ⟨#[]⟩, .int .i64 0]), 2, 24) := by kernel_rfl
theorem rule_info : (Tryz.prog.info? 50).map (fun i => (i.zero, i.size, i.bytes)) = some (some (.agg #[.string ⟨#[]⟩, .slice none 0 0, .slice none 0 0]), 3, 64) := by kernel_rfl
theorem name_tail {N : Nat} {r r1 : List TP} {p : List UInt8} (h : nameP N r = .ok p r1) : r1 = r.tail := by
  unfold nameP at h
  split at h
  · simp only [Par.ok.injEq] at h
    exact h.2.symm
  · simp at h
theorem slash_in {N : Nat} {L : List TP} {nx : Nat} {mb : List UInt8} (h : isM N (L.drop nx) 1 mb = true) : nx + 1 < L.length := by
  unfold isM at h
  simp only [Bool.and_eq_true, beq_iff_eq] at h
  by_cases hl : nx + 1 < L.length
  · exact hl
  · rw [pk_out (by omega)] at h
    exact absurd h.1 (by simp [eofT])

set_option maxRecDepth 100000 in
set_option maxHeartbeats 4000000 in
theorem declares_calls {P : Nat} {L : List TP} {N nx : Nat} {pl bad : Int} {A : Option Addr} {c : Nat} (v : Bool) (w : World) (h : PS P L N nx pl bad A c w) (hv : isM N (L.drop nx) 1 [47] = v) :
    Calls Tryz.prog 85 #[.pointer (some ⟨P, 0, none⟩)] w fun e w' => e = .returned (.bool v) ∧ Below w.heap.size w w' := by
  obtain ⟨⟨⟨k, s, n, q⟩, a⟩, hp⟩ : ∃ p, pk N (L.drop nx) 1 = p := ⟨_, rfl⟩
  obtain ⟨K, hK⟩ : ∃ K : Int, (k : Int) = K := ⟨_, rfl⟩
  have HK := Lib.hid hK
  unfold isM at hv
  rw [hp] at hv
  have HS := Lib.hid h
  have HP := Lib.hid hp
  have HV := Lib.hid hv
  clear h hv hp hK
  cases h4 : (K == 4) with
  | false =>
    have HT := Lib.hid (k_no (n := 4) HK.out h4 rfl)
    go_enter Tryz.func85, Tryz.ntmps85
    go_wp2_with (go_at_call 36; ((with_reducible refine (peekK1_calls K k s n q a _ HS.out HP.out HK.out).mono ?_); rintro e w1 ⟨rfl, hb1⟩; have HB1 := Lib.hid hb1; clear hb1))
    go_ret
    exact ⟨by rw [← HV.out, HT.out]; rfl, HB1.out.alloc HB1.out.size _⟩
  | true =>
    have HT := Lib.hid (k_yes (n := 4) HK.out h4 rfl)
    obtain rfl : K = 4 := by simpa using h4
    clear h4
    cases hs : ((bs s).toList == [47]) with
    | true =>
      have HS2 := Lib.hid (show (s == [47]) = true by rw [← bs_list s]; exact hs)
      go_enter Tryz.func85, Tryz.ntmps85
      go_wp2_with (go_at_call 36; ((with_reducible refine (peekK1_calls 4 k s n q a _ HS.out HP.out HK.out).mono ?_); rintro e w1 ⟨rfl, hb1⟩; have HB1 := Lib.hid hb1; clear hb1))
      go_ret
      exact ⟨by rw [← HV.out, HT.out, HS2.out]; rfl, HB1.out.alloc HB1.out.size _⟩
    | false =>
      have HS2 := Lib.hid (show (s == [47]) = false by rw [← bs_list s]; exact hs)
      go_enter Tryz.func85, Tryz.ntmps85
      go_wp2_with (go_at_call 36; ((with_reducible refine (peekK1_calls 4 k s n q a _ HS.out HP.out HK.out).mono ?_); rintro e w1 ⟨rfl, hb1⟩; have HB1 := Lib.hid hb1; clear hb1))
      go_ret
      exact ⟨by rw [← HV.out, HT.out, HS2.out]; rfl, HB1.out.alloc HB1.out.size _⟩
end Go.Proofs.YtminbdcabacfbaaGreatDoor.V
