/- (*parser).clause: a rule. -/
import Derived.Test.YthhfjimhfehimaaDoorClD
namespace Go.Proofs.YthhfjimhfehimaaDoor.V
set_option linter.unusedVariables false
set_option linter.unusedSimpArgs false
open Go.RowKit

theorem LitsAt.base {B B' : Nat} {W : World} {l : List LitL} {v : Value} (h : LitsAt B W l v) (hB : B' ≤ B) : LitsAt B' W l v := by
  obtain ⟨ps, h1, h2, h3⟩ := h
  exact ⟨ps, h1, o_base h2 hB, fun p hp => (h3 p hp).base hB⟩

set_option maxRecDepth 100000 in
set_option maxHeartbeats 16000000 in
theorem clause_ratom {P : Nat} {L : List TP} {N : Nat} {A : Option Addr} {c nx base G B : Nat} {ds : List DeclL} {rs : List RuleL} {Ad Ar : Option Addr} {cd cr : Nat} (w : World) (hnx : nx ≤ L.length) (hS : PS P L N nx 0 0 A c w) (hmax : ∀ p ∈ L, p.1.s.length ≤ 65536) (hga : GAt base G w ds rs Ad Ar cd cr)
    (hPb : P < base) (hGb : G < base) (hGP : G ≠ P) (hbase : base ≤ w.heap.size) (hBP : B ≤ P) (hBG : B ≤ G) (hds : ds.length ≤ 400) (hrs : rs.length ≤ 400) (k : Nat) (s : List UInt8) (n : Int) (q : Bool) (a : Nat) (hp : pk N (L.drop nx) 0 = (⟨k, s, n, q⟩, a)) (hv : isM N (L.drop nx) 1 [47] = false) (h4 : (((rs.length : Nat) : Int) == 400) = false) (a0 e0 : Nat) (ho : atomP N (L.drop nx) = .bad a0 e0) :
    Calls Tryd.prog 13 #[.pointer (some ⟨P, 0, none⟩), .pointer (some ⟨G, 0, none⟩)] w fun e w' => e = .returned (.tuple #[]) ∧ Below B w w' ∧ ∃ ds' rs' Ad' Ar' cd' cr', GAt base G w' ds' rs' Ad' Ar' cd' cr' ∧ PGot P L N A c 66000 (clauseM N ds rs (L.drop nx)) (fun y => y = (ds', rs')) w' := by
  have HP := Lib.hid hp
  have HLT := Lib.hid hS.lt
  have HN := Lib.hid hS.n
  have HNX := Lib.hid hnx
  have HMAX := Lib.hid hmax
  have HGA := Lib.hid hga
  have HPB := Lib.hid hPb
  have HGB := Lib.hid hGb
  have HGP := Lib.hid hGP
  have HBASE := Lib.hid hbase
  have HBP := Lib.hid hBP
  have HBG := Lib.hid hBG
  have HDS := Lib.hid hds
  have HRS := Lib.hid hrs
  have HS := Lib.hid (fun W (hb : Below w.heap.size w W) => hS.below hb)
  clear hS hnx hmax hga hPb hGb hGP hbase hBP hBG hds hrs
  obtain ⟨i0, hi, hz0, hz1, hz2⟩ := info_parts rule_info
  have HDV := Lib.hid hv
  have HO := Lib.hid ho
  have HF := Lib.hid (show clauseM N ds rs (L.drop nx) = .bad a0 e0 by
    unfold clauseM
    have h5 : (rs.length == 400) = false := by simp at h4 ⊢; omega
    rw [hv]
    simp only [h5, Bool.false_eq_true, if_false]
    unfold ruleP
    rw [ho]
    rfl)
  clear hv ho hp
  go_enter Tryd.func13, Tryd.ntmps13
  go_wp2_with (first
    | (go_at_call 18; ((with_reducible refine (declares_calls false _ (HS.out _ ((Below.refl _ _).alloc (Nat.le_refl _) _)) HDV.out).mono ?_); rintro e w1 ⟨rfl, hb1⟩; have HB1 := Lib.hid (below_then' ((Below.refl w.heap.size w).alloc (Nat.le_refl _) (.cells #[.pointer (some ⟨P, 0, none⟩)] 48)) hb1 (Nat.le_refl _)); have hbx1 := blk_keep (heap_alloc_new w (.cells #[.pointer (some ⟨P, 0, none⟩)] 48)) (grown_below hb1 none) (by simp); have pb1 := cell_of_row w1 w.heap.size 0 _ _ _ hbx1; have HBX1 := Lib.hid hbx1; clear hb1 hbx1))
    | (go_at_call 16; ((with_reducible refine (peek0_calls ⟨k, s, n, q⟩ a _ (HS.out _ HB1.out) HP.out).mono ?_); rintro e w2 ⟨rfl, hb2⟩; have hW2 := grown_trans (grown_below (below_then' HB1.out hb2 (Nat.le_refl _)) (some P)) (World.grownBy_alloc w2 (.cells #[.int .i64 (k : Int), .string (bs s), .int .i64 n, .bool q, .int .i64 (a : Int)] 60) (some P)); have hbx2 := blk_keep (blk_keep HBX1.out (grown_below hb2 none) (by simp)) (World.grownBy_alloc w2 (.cells #[.int .i64 (k : Int), .string (bs s), .int .i64 n, .bool q, .int .i64 (a : Int)] 60) none) (by simp); have pb2 := cell_of_row (w2.alloc (.cells #[.int .i64 (k : Int), .string (bs s), .int .i64 n, .bool q, .int .i64 (a : Int)] 60)) w.heap.size 0 _ _ _ hbx2; have HBX2 := Lib.hid hbx2; have hga2 := HGA.out.kept hW2 HPB.out HGP.out; have g0 := cell_of_row (w2.alloc (.cells #[.int .i64 (k : Int), .string (bs s), .int .i64 n, .bool q, .int .i64 (a : Int)] 60)) G 0 _ _ _ hga2.b; have g1 := cell_of_row (w2.alloc (.cells #[.int .i64 (k : Int), .string (bs s), .int .i64 n, .bool q, .int .i64 (a : Int)] 60)) G 1 _ _ _ hga2.b; have HS2 := Lib.hid (HS.out _ (below_then' (below_then' HB1.out hb2 (Nat.le_refl _)) ((Below.refl w2.heap.size w2).alloc (Nat.le_refl _) (.cells #[.int .i64 (k : Int), .string (bs s), .int .i64 n, .bool q, .int .i64 (a : Int)] 60)) (Nat.le_refl _))); have HW2 := Lib.hid hW2; clear hb2 hW2 hbx2 hga2 pb1))
    | (go_at_call 14; ((with_reducible refine (atom_calls _ (po_mk HNX.out HS2.out) HMAX.out).mono ?_); rintro e w3 ⟨hg3, x, va, rfl, hta, hgot⟩; obtain ⟨Aa, ca, rfl⟩ := o_slice hta; rw [HO.out] at hgot; obtain ⟨he0, nx1, hnx1, hS1⟩ := hgot; have HLT3 := Lib.hid (show P < w3.heap.size from hS1.lt); have HS3 := Lib.hid (hS1.below ((Below.refl w3.heap.size w3).alloc (Nat.le_refl _) (.cells #[.string (bs x.p), .slice Aa x.a.length ca, .slice none 0 0] 36))); have HEL3 := Lib.hid (heap_alloc_new w3 (.cells #[.string (bs x.p), .slice Aa x.a.length ca, .slice none 0 0] 36)); have hbx := blk_keep (blk_keep HBX2.out hg3 (by have := HLT.out; simp; omega)) (World.grownBy_alloc w3 (.cells #[.string (bs x.p), .slice Aa x.a.length ca, .slice none 0 0] 36) none) (by simp); have pb3 := cell_of_row (w3.alloc (.cells #[.string (bs x.p), .slice Aa x.a.length ca, .slice none 0 0] 36)) w.heap.size 0 _ _ _ hbx; have HBX3 := Lib.hid hbx; have HWP := Lib.hid (grown_trans HW2.out hg3); have HW3 := Lib.hid (grown_trans HWP.out (World.grownBy_alloc w3 (.cells #[.string (bs x.p), .slice Aa x.a.length ca, .slice none 0 0] 36) _)); have HV3 := Lib.hid (World.grownBy_alloc w3 (.cells #[.string (bs x.p), .slice Aa x.a.length ca, .slice none 0 0] 36) (some P)); have HTA3 := Lib.hid (show TermsAt base w3 x.a (.slice Aa x.a.length ca) from TermsAt.base hta (Nat.le_trans HBASE.out HW2.out.size)); have HE0 := Lib.hid he0; have HNX1 := Lib.hid hnx1; have HBB := Lib.hid (show ((e0 : Int) == 0) = false by simp; omega); clear he0 hnx1; clear hg3 hS1 hbx hta g0 g1))
    | (go_at_call 12; ((with_reducible refine (pok_calls false _ HS3.out HBB.out).mono ?_); rintro e w' ⟨rfl, rfl⟩))
    | (go_at_call 22; ((with_reducible refine (mark_bad_calls ⟨#[46]⟩ _ (pb_mk (m := 65600) HE0.out HNX1.out HS3.out) ?_).mono ?_); (focus (first | omega | exact Nat.le_refl _)); rintro e w6 ⟨rfl, hg6, hgot6⟩; have hbx := blk_keep HBX3.out hg6 (by have := HLT.out; simp; omega); have pb6 := cell_of_row w6 w.heap.size 0 _ _ _ hbx; have HBX6 := Lib.hid hbx; have HEL6 := Lib.hid (blk_keep HEL3.out hg6 (by have := HLT3.out; simp; omega)); have HW6 := Lib.hid (grown_trans HW3.out hg6); have HV6 := Lib.hid (grown_trans HV3.out hg6); clear hbx; have hga6 := HGA.out.kept HW6.out HPB.out HGP.out; have g0 := cell_of_row w6 G 0 _ _ _ hga6.b; have g1 := cell_of_row w6 G 1 _ _ _ hga6.b; have g0a := fun o => cell_below ((Below.refl w6.heap.size w6).alloc (Nat.le_refl _) o) g0; have g1a := fun o => cell_below ((Below.refl w6.heap.size w6).alloc (Nat.le_refl _) o) g1; have e0 := cell_of_row w6 w3.heap.size 0 _ _ _ HEL6.out; have e1 := cell_of_row w6 w3.heap.size 1 _ _ _ HEL6.out; have e2 := cell_of_row w6 w3.heap.size 2 _ _ _ HEL6.out; have HGA6 := Lib.hid hga6; have HGOT6 := Lib.hid hgot6; clear hg6 hgot6 hga6)))
  obtain ⟨qs, hqs, hoq, hqq⟩ := HGA6.out.r
  have hql : qs.length = rs.length := by rw [← hqs]; simp
  rw [hql] at hoq
  have HOQ := Lib.hid hoq
  have HQQ := Lib.hid hqq
  have HQS := Lib.hid hqs
  clear hoq hqq hqs hql
  go_region_law (first
    | (refine step_append_lies _ rfl (.tmp 87) (.tmp 89) 24 rfl base 36 i0 (.agg #[.string ⟨#[]⟩, .slice none 0 0, .slice none 0 0]) 3 64 Tryd.underlying24 hi hz0 hz1 hz2 ?_ ?_ (.slice Ar rs.length cr) rs.length (qs.flatMap ruleC) ?_ ?_ ⟨w6.heap.size, 0, none⟩ 1 1 [.string (bs x.p), .slice Aa x.a.length ca, .slice none 0 0] ?_ ?_ ?_ ?_ ?_ ?_ ?_ ?_ _ rfl ?_; rfl; decide; rfl; exact HOQ.out.alloc _; rfl; rfl; exact o_cells #[.string (bs x.p), .slice Aa x.a.length ca, .slice none 0 0] 36; (intro u hu; simp at hu; rcases hu with rfl | rfl | rfl <;> rfl); decide; (have := HRS.out; unfold maxLen; omega); (have := HRS.out; omega); (have := HBASE.out; have := HW6.out.size; simp; omega); intro g cap W7 hown hgrow hat hlt; have hgW : w6.grownBy W7 (Value.ownBlock (.slice Ar rs.length cr)) := grown_trans (World.grownBy_alloc w6 (.cells #[.string (bs x.p), .slice Aa x.a.length ca, .slice none 0 0] 36) _) (un_drew hgrow); have hg7 := blk_keep HGA6.out.b hgW (o_ne HOQ.out HGA6.out.b (by decide)); have hs7 := cell_of_row W7 G 1 _ _ _ hg7; have hf7 := frozen_of_row W7 G 1 _ _ hg7; have HG7 := Lib.hid hg7; have HOWN := Lib.hid hown; have HGW := Lib.hid hgW; clear hown hgrow hat hlt hgW hg7))
  all_goals
    go_wp2_with fail
    have hgS := grown_set (World.grownBy.refl W7 (some G)) 1 (.slice (some ⟨g, 0, none⟩) (rs.length + 1) cap)
    have hown := HOWN.out
    have hta6 : TermsAt base w6 x.a (.slice Aa x.a.length ca) := HTA3.out.kept HV6.out (fun j hj => by cases hj; exact .inl HPB.out)
    have hli6 : LitsAt base w6 [] (.slice none 0 0) := ⟨[], rfl, World.ownsRow_nil _ _ _ _, fun p hp => by cases hp⟩
    have hrow : ∀ j, Value.ownBlock (.slice Ar rs.length cr) = some j → ∃ C t m, w6.heap[j]? = some (.cells C t m) ∧ t = 36 := o_block HOQ.out
    have hkt : ∀ l u, TermsAt base w6 l u → TermsAt base (W7.setCell ⟨G, 1, none⟩ (.slice (some ⟨g, 0, none⟩) (rs.length + 1) cap)) l u := fun l u h =>
      (h.kept HGW.out (fun j hj => by obtain ⟨C, t, m, hc, ht⟩ := hrow j hj; exact .inr ⟨C, t, m, hc, by rw [ht]; decide⟩)).kept hgS (fun j hj => by cases hj; exact .inl HGB.out)
    have hkl : ∀ l u, LitsAt base w6 l u → LitsAt base (W7.setCell ⟨G, 1, none⟩ (.slice (some ⟨g, 0, none⟩) (rs.length + 1) cap)) l u := fun l u h =>
      (h.kept HGW.out (fun j hj => by obtain ⟨C, t, m, hc, ht⟩ := hrow j hj; exact .inr ⟨C, t, m, hc, by rw [ht]; decide, by rw [ht]; decide⟩)).kept hgS (fun j hj => by cases hj; exact .inl HGB.out)
    first | go_end0 | refine bodyPost_ret (results_none rfl _ _ _) rfl ?_
    refine ⟨rfl, ((below_ofP HW6.out HBP.out (Nat.le_trans HBP.out (Nat.le_of_lt HLT.out))).grown HGW.out (Nat.le_trans HBP.out (Nat.le_trans (Nat.le_of_lt HLT.out) HW6.out.size)) (fun j hj => by have := o_from HOQ.out j hj; have := HBP.out; have := HPB.out; omega)).setCell HBG.out _, ds, rs ++ [⟨x, []⟩], Ad, some ⟨g, 0, none⟩, cd, cap, ⟨?_, ?_, ?_⟩, ?_⟩
    · rw [List.length_append, List.length_singleton]
      exact set_at HG7.out _ rfl
    · exact (HGA6.out.d.kept HGW.out (fun j hj => by obtain ⟨C, t, m, hc, ht⟩ := hrow j hj; exact .inr ⟨C, t, m, hc, by rw [ht]; decide⟩)).kept hgS (fun j hj => by cases hj; exact .inl HGB.out)
    · refine ⟨qs ++ [(⟨x, []⟩, Value.slice Aa x.a.length ca, .slice none 0 0)], by rw [List.map_append, HQS.out]; rfl, ?_, ?_⟩
      · have hl : (qs ++ [((⟨x, []⟩ : RuleL), Value.slice Aa x.a.length ca, (.slice none 0 0 : Value))]).length = rs.length + 1 := by rw [List.length_append, List.length_singleton, ← HQS.out, List.length_map]
        have hl2 : (rs ++ [(⟨x, []⟩ : RuleL)]).length = rs.length + 1 := by simp
        rw [hl, hl2, List.flatMap_append]
        exact o_keptR hown hgS (fun j hj => by cases hj; exact .inl HGB.out)
      · intro y hy
        rcases List.mem_append.1 hy with hy | hy
        · exact ⟨hkt _ _ (HQQ.out y hy).1, hkl _ _ (HQQ.out y hy).2⟩
        · rw [List.mem_singleton.1 hy]
          exact ⟨hkt _ _ hta6, hkl _ _ hli6⟩
    · rw [HF.out]
      refine PGot.step (PGot.step ?_ HGW.out (fun j hj => ⟨by have := o_from HOQ.out j hj; have := HPB.out; omega, ?_⟩)) hgS (fun j hj => by cases hj; exact ⟨HGP.out, _, _, _, HG7.out, by decide⟩)
      · exact PB.mono HGOT6.out (by omega)
      · obtain ⟨C, t, m, hc, ht⟩ := hrow j hj
        exact ⟨C, t, m, hc, by rw [ht]; decide⟩

set_option maxRecDepth 100000 in
set_option maxHeartbeats 16000000 in
theorem clause_rhead {P : Nat} {L : List TP} {N : Nat} {A : Option Addr} {c nx base G B : Nat} {ds : List DeclL} {rs : List RuleL} {Ad Ar : Option Addr} {cd cr : Nat} (w : World) (hnx : nx ≤ L.length) (hS : PS P L N nx 0 0 A c w) (hmax : ∀ p ∈ L, p.1.s.length ≤ 65536) (hga : GAt base G w ds rs Ad Ar cd cr)
    (hPb : P < base) (hGb : G < base) (hGP : G ≠ P) (hbase : base ≤ w.heap.size) (hBP : B ≤ P) (hBG : B ≤ G) (hds : ds.length ≤ 400) (hrs : rs.length ≤ 400) (k : Nat) (s : List UInt8) (n : Int) (q : Bool) (a : Nat) (hp : pk N (L.drop nx) 0 = (⟨k, s, n, q⟩, a)) (hv : isM N (L.drop nx) 1 [47] = false) (h4 : (((rs.length : Nat) : Int) == 400) = false) (h0 : AtomL) (r1 : List TP) (ho : atomP N (L.drop nx) = .ok h0 r1) (hi0 : isM N r1 0 [58, 45] = false) :
    Calls Tryd.prog 13 #[.pointer (some ⟨P, 0, none⟩), .pointer (some ⟨G, 0, none⟩)] w fun e w' => e = .returned (.tuple #[]) ∧ Below B w w' ∧ ∃ ds' rs' Ad' Ar' cd' cr', GAt base G w' ds' rs' Ad' Ar' cd' cr' ∧ PGot P L N A c 66000 (clauseM N ds rs (L.drop nx)) (fun y => y = (ds', rs')) w' := by
  have HP := Lib.hid hp
  have HLT := Lib.hid hS.lt
  have HN := Lib.hid hS.n
  have HNX := Lib.hid hnx
  have HMAX := Lib.hid hmax
  have HGA := Lib.hid hga
  have HPB := Lib.hid hPb
  have HGB := Lib.hid hGb
  have HGP := Lib.hid hGP
  have HBASE := Lib.hid hbase
  have HBP := Lib.hid hBP
  have HBG := Lib.hid hBG
  have HDS := Lib.hid hds
  have HRS := Lib.hid hrs
  have HS := Lib.hid (fun W (hb : Below w.heap.size w W) => hS.below hb)
  clear hS hnx hmax hga hPb hGb hGP hbase hBP hBG hds hrs
  obtain ⟨i0, hi, hz0, hz1, hz2⟩ := info_parts rule_info
  have HDV := Lib.hid hv
  have HO := Lib.hid ho
  have HV0 := Lib.hid hi0
  have HF := Lib.hid (show clauseM N ds rs (L.drop nx) = (markP N [46] (⟨h0, []⟩ : RuleL) r1).map fun c => (ds, rs ++ [c]) by
    unfold clauseM
    have h5 : (rs.length == 400) = false := by simp at h4 ⊢; omega
    rw [hv]
    simp only [h5, Bool.false_eq_true, if_false]
    unfold ruleP
    rw [ho]
    simp only [hi0, Bool.false_eq_true, if_false])
  clear hv ho hp hi0
  go_enter Tryd.func13, Tryd.ntmps13
  go_wp2_with (first
    | (go_at_call 18; ((with_reducible refine (declares_calls false _ (HS.out _ ((Below.refl _ _).alloc (Nat.le_refl _) _)) HDV.out).mono ?_); rintro e w1 ⟨rfl, hb1⟩; have HB1 := Lib.hid (below_then' ((Below.refl w.heap.size w).alloc (Nat.le_refl _) (.cells #[.pointer (some ⟨P, 0, none⟩)] 48)) hb1 (Nat.le_refl _)); have hbx1 := blk_keep (heap_alloc_new w (.cells #[.pointer (some ⟨P, 0, none⟩)] 48)) (grown_below hb1 none) (by simp); have pb1 := cell_of_row w1 w.heap.size 0 _ _ _ hbx1; have HBX1 := Lib.hid hbx1; clear hb1 hbx1))
    | (go_at_call 16; ((with_reducible refine (peek0_calls ⟨k, s, n, q⟩ a _ (HS.out _ HB1.out) HP.out).mono ?_); rintro e w2 ⟨rfl, hb2⟩; have hW2 := grown_trans (grown_below (below_then' HB1.out hb2 (Nat.le_refl _)) (some P)) (World.grownBy_alloc w2 (.cells #[.int .i64 (k : Int), .string (bs s), .int .i64 n, .bool q, .int .i64 (a : Int)] 60) (some P)); have hbx2 := blk_keep (blk_keep HBX1.out (grown_below hb2 none) (by simp)) (World.grownBy_alloc w2 (.cells #[.int .i64 (k : Int), .string (bs s), .int .i64 n, .bool q, .int .i64 (a : Int)] 60) none) (by simp); have pb2 := cell_of_row (w2.alloc (.cells #[.int .i64 (k : Int), .string (bs s), .int .i64 n, .bool q, .int .i64 (a : Int)] 60)) w.heap.size 0 _ _ _ hbx2; have HBX2 := Lib.hid hbx2; have hga2 := HGA.out.kept hW2 HPB.out HGP.out; have g0 := cell_of_row (w2.alloc (.cells #[.int .i64 (k : Int), .string (bs s), .int .i64 n, .bool q, .int .i64 (a : Int)] 60)) G 0 _ _ _ hga2.b; have g1 := cell_of_row (w2.alloc (.cells #[.int .i64 (k : Int), .string (bs s), .int .i64 n, .bool q, .int .i64 (a : Int)] 60)) G 1 _ _ _ hga2.b; have HS2 := Lib.hid (HS.out _ (below_then' (below_then' HB1.out hb2 (Nat.le_refl _)) ((Below.refl w2.heap.size w2).alloc (Nat.le_refl _) (.cells #[.int .i64 (k : Int), .string (bs s), .int .i64 n, .bool q, .int .i64 (a : Int)] 60)) (Nat.le_refl _))); have HW2 := Lib.hid hW2; clear hb2 hW2 hbx2 hga2 pb1))
    | (go_at_call 14; ((with_reducible refine (atom_calls _ (po_mk HNX.out HS2.out) HMAX.out).mono ?_); rintro e w3 ⟨hg3, x, va, rfl, hta, hgot⟩; obtain ⟨Aa, ca, rfl⟩ := o_slice hta; rw [HO.out] at hgot; obtain ⟨hxx, nx1, hnx1, hr1, hS1⟩ := hgot; have HLT3 := Lib.hid (show P < w3.heap.size from hS1.lt); have HS3 := Lib.hid (hS1.below ((Below.refl w3.heap.size w3).alloc (Nat.le_refl _) (.cells #[.string (bs x.p), .slice Aa x.a.length ca, .slice none 0 0] 36))); have HEL3 := Lib.hid (heap_alloc_new w3 (.cells #[.string (bs x.p), .slice Aa x.a.length ca, .slice none 0 0] 36)); have hbx := blk_keep (blk_keep HBX2.out hg3 (by have := HLT.out; simp; omega)) (World.grownBy_alloc w3 (.cells #[.string (bs x.p), .slice Aa x.a.length ca, .slice none 0 0] 36) none) (by simp); have pb3 := cell_of_row (w3.alloc (.cells #[.string (bs x.p), .slice Aa x.a.length ca, .slice none 0 0] 36)) w.heap.size 0 _ _ _ hbx; have HBX3 := Lib.hid hbx; have HWP := Lib.hid (grown_trans HW2.out hg3); have HW3 := Lib.hid (grown_trans HWP.out (World.grownBy_alloc w3 (.cells #[.string (bs x.p), .slice Aa x.a.length ca, .slice none 0 0] 36) _)); have HV3 := Lib.hid (World.grownBy_alloc w3 (.cells #[.string (bs x.p), .slice Aa x.a.length ca, .slice none 0 0] 36) (some P)); have HTA3 := Lib.hid (show TermsAt base w3 x.a (.slice Aa x.a.length ca) from TermsAt.base hta (Nat.le_trans HBASE.out HW2.out.size)); have HXX := Lib.hid hxx; have HNX1 := Lib.hid hnx1; have HR1 := Lib.hid hr1; have HVI := Lib.hid (show isM N (L.drop nx1) 0 (⟨#[58, 45]⟩ : ByteArray).data.toList = false by rw [hr1]; exact HV0.out); clear hxx hnx1 hr1; clear hg3 hS1 hbx hta g0 g1))
    | (go_at_call 12; ((with_reducible refine (pok_calls true _ HS3.out rfl).mono ?_); rintro e w' ⟨rfl, rfl⟩))
    | (go_at_call 23; ((with_reducible refine (is_calls ⟨#[58, 45]⟩ false _ HS3.out HVI.out).mono ?_); rintro e w4 ⟨rfl, hb4⟩; have HS4 := Lib.hid (HS3.out.below hb4); have hbx := blk_keep HBX3.out (grown_below hb4 none) (by simp); have pb4 := cell_of_row w4 w.heap.size 0 _ _ _ hbx; have HBX4 := Lib.hid hbx; have HEL4 := Lib.hid (blk_keep HEL3.out (grown_below hb4 none) (by simp)); have HW4 := Lib.hid (grown_trans HW3.out (grown_below hb4 (some P))); have HV4 := Lib.hid (grown_trans HV3.out (grown_below hb4 (some P))); clear hbx; clear hb4))
    | (go_at_call 22; ((with_reducible refine (mark_ok_calls ⟨#[46]⟩ _ (po_at HNX1.out HR1.out HS4.out) ?_).mono ?_); (focus (first | omega | exact Nat.le_refl _)); rintro e w6 ⟨rfl, hg6, hgot6⟩; have hbx := blk_keep HBX4.out hg6 (by have := HLT.out; simp; omega); have pb6 := cell_of_row w6 w.heap.size 0 _ _ _ hbx; have HBX6 := Lib.hid hbx; have HEL6 := Lib.hid (blk_keep HEL4.out hg6 (by have := HLT3.out; simp; omega)); have HW6 := Lib.hid (grown_trans HW4.out hg6); have HV6 := Lib.hid (grown_trans HV4.out hg6); clear hbx; have hga6 := HGA.out.kept HW6.out HPB.out HGP.out; have g0 := cell_of_row w6 G 0 _ _ _ hga6.b; have g1 := cell_of_row w6 G 1 _ _ _ hga6.b; have g0a := fun o => cell_below ((Below.refl w6.heap.size w6).alloc (Nat.le_refl _) o) g0; have g1a := fun o => cell_below ((Below.refl w6.heap.size w6).alloc (Nat.le_refl _) o) g1; have e0 := cell_of_row w6 w3.heap.size 0 _ _ _ HEL6.out; have e1 := cell_of_row w6 w3.heap.size 1 _ _ _ HEL6.out; have e2 := cell_of_row w6 w3.heap.size 2 _ _ _ HEL6.out; have HGA6 := Lib.hid hga6; have HGOT6 := Lib.hid hgot6; clear hg6 hgot6 hga6)))
  obtain ⟨qs, hqs, hoq, hqq⟩ := HGA6.out.r
  have hql : qs.length = rs.length := by rw [← hqs]; simp
  rw [hql] at hoq
  have HOQ := Lib.hid hoq
  have HQQ := Lib.hid hqq
  have HQS := Lib.hid hqs
  clear hoq hqq hqs hql
  go_region_law (first
    | (refine step_append_lies _ rfl (.tmp 87) (.tmp 89) 24 rfl base 36 i0 (.agg #[.string ⟨#[]⟩, .slice none 0 0, .slice none 0 0]) 3 64 Tryd.underlying24 hi hz0 hz1 hz2 ?_ ?_ (.slice Ar rs.length cr) rs.length (qs.flatMap ruleC) ?_ ?_ ⟨w6.heap.size, 0, none⟩ 1 1 [.string (bs x.p), .slice Aa x.a.length ca, .slice none 0 0] ?_ ?_ ?_ ?_ ?_ ?_ ?_ ?_ _ rfl ?_; rfl; decide; rfl; exact HOQ.out.alloc _; rfl; rfl; exact o_cells #[.string (bs x.p), .slice Aa x.a.length ca, .slice none 0 0] 36; (intro u hu; simp at hu; rcases hu with rfl | rfl | rfl <;> rfl); decide; (have := HRS.out; unfold maxLen; omega); (have := HRS.out; omega); (have := HBASE.out; have := HW6.out.size; simp; omega); intro g cap W7 hown hgrow hat hlt; have hgW : w6.grownBy W7 (Value.ownBlock (.slice Ar rs.length cr)) := grown_trans (World.grownBy_alloc w6 (.cells #[.string (bs x.p), .slice Aa x.a.length ca, .slice none 0 0] 36) _) (un_drew hgrow); have hg7 := blk_keep HGA6.out.b hgW (o_ne HOQ.out HGA6.out.b (by decide)); have hs7 := cell_of_row W7 G 1 _ _ _ hg7; have hf7 := frozen_of_row W7 G 1 _ _ hg7; have HG7 := Lib.hid hg7; have HOWN := Lib.hid hown; have HGW := Lib.hid hgW; clear hown hgrow hat hlt hgW hg7))
  all_goals
    go_wp2_with fail
    have hgS := grown_set (World.grownBy.refl W7 (some G)) 1 (.slice (some ⟨g, 0, none⟩) (rs.length + 1) cap)
    have hown := HOWN.out
    have hta6 : TermsAt base w6 x.a (.slice Aa x.a.length ca) := HTA3.out.kept HV6.out (fun j hj => by cases hj; exact .inl HPB.out)
    have hli6 : LitsAt base w6 [] (.slice none 0 0) := ⟨[], rfl, World.ownsRow_nil _ _ _ _, fun p hp => by cases hp⟩
    have hrow : ∀ j, Value.ownBlock (.slice Ar rs.length cr) = some j → ∃ C t m, w6.heap[j]? = some (.cells C t m) ∧ t = 36 := o_block HOQ.out
    have hkt : ∀ l u, TermsAt base w6 l u → TermsAt base (W7.setCell ⟨G, 1, none⟩ (.slice (some ⟨g, 0, none⟩) (rs.length + 1) cap)) l u := fun l u h =>
      (h.kept HGW.out (fun j hj => by obtain ⟨C, t, m, hc, ht⟩ := hrow j hj; exact .inr ⟨C, t, m, hc, by rw [ht]; decide⟩)).kept hgS (fun j hj => by cases hj; exact .inl HGB.out)
    have hkl : ∀ l u, LitsAt base w6 l u → LitsAt base (W7.setCell ⟨G, 1, none⟩ (.slice (some ⟨g, 0, none⟩) (rs.length + 1) cap)) l u := fun l u h =>
      (h.kept HGW.out (fun j hj => by obtain ⟨C, t, m, hc, ht⟩ := hrow j hj; exact .inr ⟨C, t, m, hc, by rw [ht]; decide, by rw [ht]; decide⟩)).kept hgS (fun j hj => by cases hj; exact .inl HGB.out)
    first | go_end0 | refine bodyPost_ret (results_none rfl _ _ _) rfl ?_
    refine ⟨rfl, ((below_ofP HW6.out HBP.out (Nat.le_trans HBP.out (Nat.le_of_lt HLT.out))).grown HGW.out (Nat.le_trans HBP.out (Nat.le_trans (Nat.le_of_lt HLT.out) HW6.out.size)) (fun j hj => by have := o_from HOQ.out j hj; have := HBP.out; have := HPB.out; omega)).setCell HBG.out _, ds, rs ++ [⟨x, []⟩], Ad, some ⟨g, 0, none⟩, cd, cap, ⟨?_, ?_, ?_⟩, ?_⟩
    · rw [List.length_append, List.length_singleton]
      exact set_at HG7.out _ rfl
    · exact (HGA6.out.d.kept HGW.out (fun j hj => by obtain ⟨C, t, m, hc, ht⟩ := hrow j hj; exact .inr ⟨C, t, m, hc, by rw [ht]; decide⟩)).kept hgS (fun j hj => by cases hj; exact .inl HGB.out)
    · refine ⟨qs ++ [(⟨x, []⟩, Value.slice Aa x.a.length ca, .slice none 0 0)], by rw [List.map_append, HQS.out]; rfl, ?_, ?_⟩
      · have hl : (qs ++ [((⟨x, []⟩ : RuleL), Value.slice Aa x.a.length ca, (.slice none 0 0 : Value))]).length = rs.length + 1 := by rw [List.length_append, List.length_singleton, ← HQS.out, List.length_map]
        have hl2 : (rs ++ [(⟨x, []⟩ : RuleL)]).length = rs.length + 1 := by simp
        rw [hl, hl2, List.flatMap_append]
        exact o_keptR hown hgS (fun j hj => by cases hj; exact .inl HGB.out)
      · intro y hy
        rcases List.mem_append.1 hy with hy | hy
        · exact ⟨hkt _ _ (HQQ.out y hy).1, hkl _ _ (HQQ.out y hy).2⟩
        · rw [List.mem_singleton.1 hy]
          exact ⟨hkt _ _ hta6, hkl _ _ hli6⟩
    · rw [HF.out]
      refine PGot.step (PGot.step ?_ HGW.out (fun j hj => ⟨by have := o_from HOQ.out j hj; have := HPB.out; omega, ?_⟩)) hgS (fun j hj => by cases hj; exact ⟨HGP.out, _, _, _, HG7.out, by decide⟩)
      · exact (mark_rel (⟨h0, []⟩ : RuleL) HGOT6.out).map _ (by omega) (fun y hy => by rw [hy, HXX.out])
      · obtain ⟨C, t, m, hc, ht⟩ := hrow j hj
        exact ⟨C, t, m, hc, by rw [ht]; decide⟩

end Go.Proofs.YthhfjimhfehimaaDoor.V
