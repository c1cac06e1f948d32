/- (*parser).clause: a declaration. -/
import Derived.Test.YthhfjimhfehimaaDoorDecl
namespace Go.Proofs.YthhfjimhfehimaaDoor.V
set_option linter.unusedVariables false
set_option linter.unusedSimpArgs false
open Go.RowKit

theorem po_at {P : Nat} {L : List TP} {N : Nat} {A : Option Addr} {c nx : Nat} {r : List TP} {W : World} (h1 : nx ≤ L.length) (h2 : L.drop nx = r) (h3 : PS P L N nx 0 0 A c W) : PO P L N A c r W := ⟨nx, h1, h2, h3⟩
/-- A state that something is wrong in. -/
theorem pb_mk {P : Nat} {L : List TP} {N : Nat} {A : Option Addr} {c a e m nx : Nat} {W : World} (h0 : e ≠ 0) (h1 : nx ≤ m) (h3 : PS P L N nx (a : Int) (e : Int) A c W) : PB P L N A c a e m W := ⟨h0, nx, h1, h3⟩
/-- What grew by the parser's block alone. -/
theorem below_ofP {w w' : World} {P B : Nat} (h : w.grownBy w' (some P)) (hB : B ≤ P) (hB2 : B ≤ w.heap.size) : Below B w w' := (Below.refl B w).grown h hB2 (fun k hk => by cases hk; exact hB)

set_option maxRecDepth 100000 in
set_option maxHeartbeats 16000000 in
theorem clause_dfull {P : Nat} {L : List TP} {N : Nat} {A : Option Addr} {c nx base G B : Nat} {ds : List DeclL} {rs : List RuleL} {Ad Ar : Option Addr} {cd cr : Nat} (w : World) (hnx : nx ≤ L.length) (hS : PS P L N nx 0 0 A c w) (hmax : ∀ p ∈ L, p.1.s.length ≤ 65536) (hga : GAt base G w ds rs Ad Ar cd cr)
    (hPb : P < base) (hGb : G < base) (hGP : G ≠ P) (hbase : base ≤ w.heap.size) (hBP : B ≤ P) (hBG : B ≤ G) (hds : ds.length ≤ 400) (hrs : rs.length ≤ 400) (k : Nat) (s : List UInt8) (n : Int) (q : Bool) (a : Nat) (hp : pk N (L.drop nx) 0 = (⟨k, s, n, q⟩, a)) (hv : isM N (L.drop nx) 1 [47] = true) (h4 : (((ds.length : Nat) : Int) == 400) = true) :
    Calls Tryd.prog 13 #[.pointer (some ⟨P, 0, none⟩), .pointer (some ⟨G, 0, none⟩)] w fun e w' => e = .returned (.tuple #[]) ∧ Below B w w' ∧ ∃ ds' rs' Ad' Ar' cd' cr', GAt base G w' ds' rs' Ad' Ar' cd' cr' ∧ PGot P L N A c 66000 (clauseM N ds rs (L.drop nx)) (fun y => y = (ds', rs')) w' := by
  have HP := Lib.hid hp
  have HLT := Lib.hid hS.lt
  have HN := Lib.hid hS.n
  have HNX := Lib.hid hnx
  have HMAX := Lib.hid hmax
  have HGA := Lib.hid hga
  have HPB := Lib.hid hPb
  have HGB := Lib.hid hGb
  have HGP := Lib.hid hGP
  have HBASE := Lib.hid hbase
  have HBP := Lib.hid hBP
  have HBG := Lib.hid hBG
  have HDS := Lib.hid hds
  have HRS := Lib.hid hrs
  have HS := Lib.hid (fun W (hb : Below w.heap.size w W) => hS.below hb)
  clear hS hnx hmax hga hPb hGb hGP hbase hBP hBG hds hrs
  have HDV := Lib.hid hv
  have HF := Lib.hid (show clauseM N ds rs (L.drop nx) = .bad a 4 by
    unfold clauseM
    have h5 : (ds.length == 400) = true := by simp at h4 ⊢; omega
    rw [hv, hp]
    simp [h5])
  clear hv hp
  go_enter Tryd.func13, Tryd.ntmps13
  go_wp2_with (first
    | (go_at_call 18; ((with_reducible refine (declares_calls true _ (HS.out _ ((Below.refl _ _).alloc (Nat.le_refl _) _)) HDV.out).mono ?_); rintro e w1 ⟨rfl, hb1⟩; have HB1 := Lib.hid (below_then' ((Below.refl w.heap.size w).alloc (Nat.le_refl _) (.cells #[.pointer (some ⟨P, 0, none⟩)] 48)) hb1 (Nat.le_refl _)); have hbx1 := blk_keep (heap_alloc_new w (.cells #[.pointer (some ⟨P, 0, none⟩)] 48)) (grown_below hb1 none) (by simp); have pb1 := cell_of_row w1 w.heap.size 0 _ _ _ hbx1; have HBX1 := Lib.hid hbx1; clear hb1 hbx1))
    | (go_at_call 16; ((with_reducible refine (peek0_calls ⟨k, s, n, q⟩ a _ (HS.out _ HB1.out) HP.out).mono ?_); rintro e w2 ⟨rfl, hb2⟩; have hW2 := grown_trans (grown_below (below_then' HB1.out hb2 (Nat.le_refl _)) (some P)) (World.grownBy_alloc w2 (.cells #[.int .i64 (k : Int), .string (bs s), .int .i64 n, .bool q, .int .i64 (a : Int)] 60) (some P)); have hbx2 := blk_keep (blk_keep HBX1.out (grown_below hb2 none) (by simp)) (World.grownBy_alloc w2 (.cells #[.int .i64 (k : Int), .string (bs s), .int .i64 n, .bool q, .int .i64 (a : Int)] 60) none) (by simp); have pb2 := cell_of_row (w2.alloc (.cells #[.int .i64 (k : Int), .string (bs s), .int .i64 n, .bool q, .int .i64 (a : Int)] 60)) w.heap.size 0 _ _ _ hbx2; have HBX2 := Lib.hid hbx2; have hga2 := HGA.out.kept hW2 HPB.out HGP.out; have g0 := cell_of_row (w2.alloc (.cells #[.int .i64 (k : Int), .string (bs s), .int .i64 n, .bool q, .int .i64 (a : Int)] 60)) G 0 _ _ _ hga2.b; have g1 := cell_of_row (w2.alloc (.cells #[.int .i64 (k : Int), .string (bs s), .int .i64 n, .bool q, .int .i64 (a : Int)] 60)) G 1 _ _ _ hga2.b; have HS2 := Lib.hid (HS.out _ (below_then' (below_then' HB1.out hb2 (Nat.le_refl _)) ((Below.refl w2.heap.size w2).alloc (Nat.le_refl _) (.cells #[.int .i64 (k : Int), .string (bs s), .int .i64 n, .bool q, .int .i64 (a : Int)] 60)) (Nat.le_refl _))); have HW2 := Lib.hid hW2; clear hb2 hW2 hbx2 hga2 pb1))
    | (go_at_call 15; ((with_reducible refine (fail_ok_calls _ (bs s) n q a 4 _ HS2.out).mono ?_); rintro e w3 ⟨rfl, hs3, hg3⟩; have HS3 := Lib.hid hs3; have HW3 := Lib.hid (grown_trans HW2.out hg3); clear hs3 hg3)))
  refine bodyPost_ret (results_none rfl _ _ _) rfl ?_
  refine ⟨rfl, below_ofP HW3.out HBP.out (Nat.le_trans HBP.out (Nat.le_of_lt HLT.out)), ds, rs, Ad, Ar, cd, cr, HGA.out.kept HW3.out HPB.out HGP.out, ?_⟩
  rw [HF.out]
  exact ⟨by omega, nx, by have := HNX.out; have := HN.out; omega, HS3.out⟩

set_option maxRecDepth 100000 in
set_option maxHeartbeats 16000000 in
theorem clause_rfull {P : Nat} {L : List TP} {N : Nat} {A : Option Addr} {c nx base G B : Nat} {ds : List DeclL} {rs : List RuleL} {Ad Ar : Option Addr} {cd cr : Nat} (w : World) (hnx : nx ≤ L.length) (hS : PS P L N nx 0 0 A c w) (hmax : ∀ p ∈ L, p.1.s.length ≤ 65536) (hga : GAt base G w ds rs Ad Ar cd cr)
    (hPb : P < base) (hGb : G < base) (hGP : G ≠ P) (hbase : base ≤ w.heap.size) (hBP : B ≤ P) (hBG : B ≤ G) (hds : ds.length ≤ 400) (hrs : rs.length ≤ 400) (k : Nat) (s : List UInt8) (n : Int) (q : Bool) (a : Nat) (hp : pk N (L.drop nx) 0 = (⟨k, s, n, q⟩, a)) (hv : isM N (L.drop nx) 1 [47] = false) (h4 : (((rs.length : Nat) : Int) == 400) = true) :
    Calls Tryd.prog 13 #[.pointer (some ⟨P, 0, none⟩), .pointer (some ⟨G, 0, none⟩)] w fun e w' => e = .returned (.tuple #[]) ∧ Below B w w' ∧ ∃ ds' rs' Ad' Ar' cd' cr', GAt base G w' ds' rs' Ad' Ar' cd' cr' ∧ PGot P L N A c 66000 (clauseM N ds rs (L.drop nx)) (fun y => y = (ds', rs')) w' := by
  have HP := Lib.hid hp
  have HLT := Lib.hid hS.lt
  have HN := Lib.hid hS.n
  have HNX := Lib.hid hnx
  have HMAX := Lib.hid hmax
  have HGA := Lib.hid hga
  have HPB := Lib.hid hPb
  have HGB := Lib.hid hGb
  have HGP := Lib.hid hGP
  have HBASE := Lib.hid hbase
  have HBP := Lib.hid hBP
  have HBG := Lib.hid hBG
  have HDS := Lib.hid hds
  have HRS := Lib.hid hrs
  have HS := Lib.hid (fun W (hb : Below w.heap.size w W) => hS.below hb)
  clear hS hnx hmax hga hPb hGb hGP hbase hBP hBG hds hrs
  have HDV := Lib.hid hv
  have HF := Lib.hid (show clauseM N ds rs (L.drop nx) = .bad a 4 by
    unfold clauseM
    have h5 : (rs.length == 400) = true := by simp at h4 ⊢; omega
    rw [hv, hp]
    simp [h5])
  clear hv hp
  go_enter Tryd.func13, Tryd.ntmps13
  go_wp2_with (first
    | (go_at_call 18; ((with_reducible refine (declares_calls false _ (HS.out _ ((Below.refl _ _).alloc (Nat.le_refl _) _)) HDV.out).mono ?_); rintro e w1 ⟨rfl, hb1⟩; have HB1 := Lib.hid (below_then' ((Below.refl w.heap.size w).alloc (Nat.le_refl _) (.cells #[.pointer (some ⟨P, 0, none⟩)] 48)) hb1 (Nat.le_refl _)); have hbx1 := blk_keep (heap_alloc_new w (.cells #[.pointer (some ⟨P, 0, none⟩)] 48)) (grown_below hb1 none) (by simp); have pb1 := cell_of_row w1 w.heap.size 0 _ _ _ hbx1; have HBX1 := Lib.hid hbx1; clear hb1 hbx1))
    | (go_at_call 16; ((with_reducible refine (peek0_calls ⟨k, s, n, q⟩ a _ (HS.out _ HB1.out) HP.out).mono ?_); rintro e w2 ⟨rfl, hb2⟩; have hW2 := grown_trans (grown_below (below_then' HB1.out hb2 (Nat.le_refl _)) (some P)) (World.grownBy_alloc w2 (.cells #[.int .i64 (k : Int), .string (bs s), .int .i64 n, .bool q, .int .i64 (a : Int)] 60) (some P)); have hbx2 := blk_keep (blk_keep HBX1.out (grown_below hb2 none) (by simp)) (World.grownBy_alloc w2 (.cells #[.int .i64 (k : Int), .string (bs s), .int .i64 n, .bool q, .int .i64 (a : Int)] 60) none) (by simp); have pb2 := cell_of_row (w2.alloc (.cells #[.int .i64 (k : Int), .string (bs s), .int .i64 n, .bool q, .int .i64 (a : Int)] 60)) w.heap.size 0 _ _ _ hbx2; have HBX2 := Lib.hid hbx2; have hga2 := HGA.out.kept hW2 HPB.out HGP.out; have g0 := cell_of_row (w2.alloc (.cells #[.int .i64 (k : Int), .string (bs s), .int .i64 n, .bool q, .int .i64 (a : Int)] 60)) G 0 _ _ _ hga2.b; have g1 := cell_of_row (w2.alloc (.cells #[.int .i64 (k : Int), .string (bs s), .int .i64 n, .bool q, .int .i64 (a : Int)] 60)) G 1 _ _ _ hga2.b; have HS2 := Lib.hid (HS.out _ (below_then' (below_then' HB1.out hb2 (Nat.le_refl _)) ((Below.refl w2.heap.size w2).alloc (Nat.le_refl _) (.cells #[.int .i64 (k : Int), .string (bs s), .int .i64 n, .bool q, .int .i64 (a : Int)] 60)) (Nat.le_refl _))); have HW2 := Lib.hid hW2; clear hb2 hW2 hbx2 hga2 pb1))
    | (go_at_call 15; ((with_reducible refine (fail_ok_calls _ (bs s) n q a 4 _ HS2.out).mono ?_); rintro e w3 ⟨rfl, hs3, hg3⟩; have HS3 := Lib.hid hs3; have HW3 := Lib.hid (grown_trans HW2.out hg3); clear hs3 hg3)))
  refine bodyPost_ret (results_none rfl _ _ _) rfl ?_
  refine ⟨rfl, below_ofP HW3.out HBP.out (Nat.le_trans HBP.out (Nat.le_of_lt HLT.out)), ds, rs, Ad, Ar, cd, cr, HGA.out.kept HW3.out HPB.out HGP.out, ?_⟩
  rw [HF.out]
  exact ⟨by omega, nx, by have := HNX.out; have := HN.out; omega, HS3.out⟩

set_option maxRecDepth 100000 in
set_option maxHeartbeats 16000000 in
theorem clause_dname {P : Nat} {L : List TP} {N : Nat} {A : Option Addr} {c nx base G B : Nat} {ds : List DeclL} {rs : List RuleL} {Ad Ar : Option Addr} {cd cr : Nat} (w : World) (hnx : nx ≤ L.length) (hS : PS P L N nx 0 0 A c w) (hmax : ∀ p ∈ L, p.1.s.length ≤ 65536) (hga : GAt base G w ds rs Ad Ar cd cr)
    (hPb : P < base) (hGb : G < base) (hGP : G ≠ P) (hbase : base ≤ w.heap.size) (hBP : B ≤ P) (hBG : B ≤ G) (hds : ds.length ≤ 400) (hrs : rs.length ≤ 400) (k : Nat) (s : List UInt8) (n : Int) (q : Bool) (a : Nat) (hp : pk N (L.drop nx) 0 = (⟨k, s, n, q⟩, a)) (hv : isM N (L.drop nx) 1 [47] = true) (h4 : (((ds.length : Nat) : Int) == 400) = false) (a0 e0 : Nat) (ho : nameP N (L.drop nx) = .bad a0 e0) :
    Calls Tryd.prog 13 #[.pointer (some ⟨P, 0, none⟩), .pointer (some ⟨G, 0, none⟩)] w fun e w' => e = .returned (.tuple #[]) ∧ Below B w w' ∧ ∃ ds' rs' Ad' Ar' cd' cr', GAt base G w' ds' rs' Ad' Ar' cd' cr' ∧ PGot P L N A c 66000 (clauseM N ds rs (L.drop nx)) (fun y => y = (ds', rs')) w' := by
  have HP := Lib.hid hp
  have HLT := Lib.hid hS.lt
  have HN := Lib.hid hS.n
  have HNX := Lib.hid hnx
  have HMAX := Lib.hid hmax
  have HGA := Lib.hid hga
  have HPB := Lib.hid hPb
  have HGB := Lib.hid hGb
  have HGP := Lib.hid hGP
  have HBASE := Lib.hid hbase
  have HBP := Lib.hid hBP
  have HBG := Lib.hid hBG
  have HDS := Lib.hid hds
  have HRS := Lib.hid hrs
  have HS := Lib.hid (fun W (hb : Below w.heap.size w W) => hS.below hb)
  clear hS hnx hmax hga hPb hGb hGP hbase hBP hBG hds hrs
  obtain ⟨i0, hi, hz0, hz1, hz2⟩ := info_parts decl_info
  have HDV := Lib.hid hv
  have HO := Lib.hid ho
  have HF := Lib.hid (show clauseM N ds rs (L.drop nx) = .bad a0 e0 by
    unfold clauseM
    have h5 : (ds.length == 400) = false := by simp at h4 ⊢; omega
    rw [hv]
    simp only [h5, if_true, Bool.false_eq_true, if_false]
    unfold declP
    rw [ho]
    rfl)
  clear hv ho hp
  go_enter Tryd.func13, Tryd.ntmps13
  go_wp2_with (first
    | (go_at_call 18; ((with_reducible refine (declares_calls true _ (HS.out _ ((Below.refl _ _).alloc (Nat.le_refl _) _)) HDV.out).mono ?_); rintro e w1 ⟨rfl, hb1⟩; have HB1 := Lib.hid (below_then' ((Below.refl w.heap.size w).alloc (Nat.le_refl _) (.cells #[.pointer (some ⟨P, 0, none⟩)] 48)) hb1 (Nat.le_refl _)); have hbx1 := blk_keep (heap_alloc_new w (.cells #[.pointer (some ⟨P, 0, none⟩)] 48)) (grown_below hb1 none) (by simp); have pb1 := cell_of_row w1 w.heap.size 0 _ _ _ hbx1; have HBX1 := Lib.hid hbx1; clear hb1 hbx1))
    | (go_at_call 16; ((with_reducible refine (peek0_calls ⟨k, s, n, q⟩ a _ (HS.out _ HB1.out) HP.out).mono ?_); rintro e w2 ⟨rfl, hb2⟩; have hW2 := grown_trans (grown_below (below_then' HB1.out hb2 (Nat.le_refl _)) (some P)) (World.grownBy_alloc w2 (.cells #[.int .i64 (k : Int), .string (bs s), .int .i64 n, .bool q, .int .i64 (a : Int)] 60) (some P)); have hbx2 := blk_keep (blk_keep HBX1.out (grown_below hb2 none) (by simp)) (World.grownBy_alloc w2 (.cells #[.int .i64 (k : Int), .string (bs s), .int .i64 n, .bool q, .int .i64 (a : Int)] 60) none) (by simp); have pb2 := cell_of_row (w2.alloc (.cells #[.int .i64 (k : Int), .string (bs s), .int .i64 n, .bool q, .int .i64 (a : Int)] 60)) w.heap.size 0 _ _ _ hbx2; have HBX2 := Lib.hid hbx2; have hga2 := HGA.out.kept hW2 HPB.out HGP.out; have g0 := cell_of_row (w2.alloc (.cells #[.int .i64 (k : Int), .string (bs s), .int .i64 n, .bool q, .int .i64 (a : Int)] 60)) G 0 _ _ _ hga2.b; have g1 := cell_of_row (w2.alloc (.cells #[.int .i64 (k : Int), .string (bs s), .int .i64 n, .bool q, .int .i64 (a : Int)] 60)) G 1 _ _ _ hga2.b; have HS2 := Lib.hid (HS.out _ (below_then' (below_then' HB1.out hb2 (Nat.le_refl _)) ((Below.refl w2.heap.size w2).alloc (Nat.le_refl _) (.cells #[.int .i64 (k : Int), .string (bs s), .int .i64 n, .bool q, .int .i64 (a : Int)] 60)) (Nat.le_refl _))); have HW2 := Lib.hid hW2; clear hb2 hW2 hbx2 hga2 pb1))
    | (go_at_call 19; ((with_reducible refine (name_calls _ (po_mk HNX.out HS2.out) HMAX.out).mono ?_); rintro e w3 ⟨hg3, x, rfl, hgot⟩; rw [HO.out] at hgot; obtain ⟨he0, nx1, hnx1, hS1⟩ := hgot; have HLT3 := Lib.hid (show P < w3.heap.size from hS1.lt); have HS3 := Lib.hid (hS1.below ((Below.refl w3.heap.size w3).alloc (Nat.le_refl _) (.cells #[.string (bs x), .int .i64 0] 66))); have HEL3 := Lib.hid (heap_alloc_new w3 (.cells #[.string (bs x), .int .i64 0] 66)); have hbx := blk_keep (blk_keep HBX2.out hg3 (by have := HLT.out; simp; omega)) (World.grownBy_alloc w3 (.cells #[.string (bs x), .int .i64 0] 66) none) (by simp); have pb3 := cell_of_row (w3.alloc (.cells #[.string (bs x), .int .i64 0] 66)) w.heap.size 0 _ _ _ hbx; have HBX3 := Lib.hid hbx; have HW3 := Lib.hid (grown_trans HW2.out (grown_trans hg3 (World.grownBy_alloc w3 (.cells #[.string (bs x), .int .i64 0] 66) _))); have HV3 := Lib.hid (World.grownBy_alloc w3 (.cells #[.string (bs x), .int .i64 0] 66) (some P)); have HE0 := Lib.hid he0; have HNX1 := Lib.hid hnx1; clear he0 hnx1 hg3 hS1 hbx g0 g1; refine RowKit.Hid.out ?_)))
  refine Lib.hid ?_
  obtain ⟨⟨⟨k2, s2, n2, q2⟩, a2⟩, hp2⟩ : ∃ p, pk N (L.drop nx1) 0 = p := ⟨_, rfl⟩
  have HP2 := Lib.hid hp2
  have HX2 := Lib.hid (show nx1 + 1 ≤ 1000000 by have := HNX1.out; omega)
  have HBB := Lib.hid (show ((e0 : Int) == 0) = false by have := HE0.out; simp; omega)
  clear hp2
  go_wp2_with (first
    | (go_at_call 20; ((with_reducible refine (takeA_calls _ k2 s2 n2 q2 a2 _ HS3.out HX2.out HP2.out rfl).mono ?_); rintro e w4 ⟨rfl, hs4, hg4⟩; have HS4 := Lib.hid hs4; have hbx := blk_keep HBX3.out hg4 (by have := HLT.out; simp; omega); have pb4 := cell_of_row w4 w.heap.size 0 _ _ _ hbx; have HBX4 := Lib.hid hbx; have HEL4 := Lib.hid (blk_keep HEL3.out hg4 (by have := HLT3.out; simp; omega)); have HW4 := Lib.hid (grown_trans HW3.out hg4); have HV4 := Lib.hid (grown_trans HV3.out hg4); clear hbx; clear hs4 hg4))
    | (go_at_call 12; ((with_reducible refine (pok_calls false _ HS4.out HBB.out).mono ?_); rintro e w' ⟨rfl, rfl⟩))
    | (go_at_call 22; ((with_reducible refine (mark_bad_calls ⟨#[46]⟩ _ (pb_mk (m := 65538) HE0.out (by have := HNX1.out; omega) HS4.out) ?_).mono ?_); (focus (first | omega | exact Nat.le_refl _)); rintro e w6 ⟨rfl, hg6, hgot6⟩; have hbx := blk_keep HBX4.out hg6 (by have := HLT.out; simp; omega); have pb6 := cell_of_row w6 w.heap.size 0 _ _ _ hbx; have HBX6 := Lib.hid hbx; have HEL6 := Lib.hid (blk_keep HEL4.out hg6 (by have := HLT3.out; simp; omega)); have HW6 := Lib.hid (grown_trans HW4.out hg6); have HV6 := Lib.hid (grown_trans HV4.out hg6); clear hbx; have hga6 := HGA.out.kept HW6.out HPB.out HGP.out; have g0 := cell_of_row w6 G 0 _ _ _ hga6.b; have g1 := cell_of_row w6 G 1 _ _ _ hga6.b; have g0a := fun o => cell_below ((Below.refl w6.heap.size w6).alloc (Nat.le_refl _) o) g0; have g1a := fun o => cell_below ((Below.refl w6.heap.size w6).alloc (Nat.le_refl _) o) g1; have e0 := cell_of_row w6 w3.heap.size 0 _ _ _ HEL6.out; have e1 := cell_of_row w6 w3.heap.size 1 _ _ _ HEL6.out; have HGA6 := Lib.hid hga6; have HGOT6 := Lib.hid hgot6; clear hg6 hgot6 hga6)))
  go_region_law (first
    | (refine step_append_lies _ rfl (.tmp 57) (.tmp 59) 23 rfl base 66 i0 (.agg #[.string ⟨#[]⟩, .int .i64 0]) 2 24 Tryd.underlying23 hi hz0 hz1 hz2 ?_ ?_ (.slice Ad ds.length cd) ds.length (ds.flatMap declC) ?_ ?_ ⟨w6.heap.size, 0, none⟩ 1 1 [.string (bs x), .int .i64 0] ?_ ?_ ?_ ?_ ?_ ?_ ?_ ?_ _ rfl ?_; rfl; decide; rfl; exact HGA6.out.d.alloc _; rfl; rfl; exact o_cells #[.string (bs x), .int .i64 0] 66; (intro u hu; simp at hu; rcases hu with rfl | rfl <;> rfl); decide; (have := HDS.out; unfold maxLen; omega); (have := HDS.out; omega); (have := HBASE.out; have := HW6.out.size; simp; omega); intro g cap W7 hown hgrow hat hlt; have hgW : w6.grownBy W7 (Value.ownBlock (.slice Ad ds.length cd)) := grown_trans (World.grownBy_alloc w6 (.cells #[.string (bs x), .int .i64 0] 66) _) (un_drew hgrow); have hg7 := blk_keep HGA6.out.b hgW (o_ne HGA6.out.d HGA6.out.b (by decide)); have hs7 := cell_of_row W7 G 0 _ _ _ hg7; have hf7 := frozen_of_row W7 G 0 _ _ hg7; have HG7 := Lib.hid hg7; have HOWN := Lib.hid hown; have HGW := Lib.hid hgW; clear hown hgrow hat hlt hgW hg7))
  all_goals
    go_wp2_with fail
    have hgS := grown_set (World.grownBy.refl W7 (some G)) 0 (.slice (some ⟨g, 0, none⟩) (ds.length + 1) cap)
    have hown := HOWN.out
    refine bodyPost_ret (results_none rfl _ _ _) rfl ?_
    refine ⟨rfl, ((below_ofP HW6.out HBP.out (Nat.le_trans HBP.out (Nat.le_of_lt HLT.out))).grown HGW.out (Nat.le_trans HBP.out (Nat.le_trans (Nat.le_of_lt HLT.out) HW6.out.size)) (fun j hj => by have := o_from HGA6.out.d j hj; have := HBP.out; have := HPB.out; omega)).setCell HBG.out _, ds ++ [⟨x, 0⟩], rs, some ⟨g, 0, none⟩, Ar, cap, cr, ⟨?_, ?_, ?_⟩, ?_⟩
    · rw [List.length_append, List.length_singleton]
      exact set_at HG7.out _ rfl
    · unfold DeclsAt
      rw [List.length_append, List.length_singleton, List.flatMap_append]
      exact o_keptR hown hgS (fun j hj => by cases hj; exact .inl HGB.out)
    · exact (HGA6.out.r.kept HGW.out (fun j hj => by obtain ⟨C, t, m, hc, ht⟩ := o_block HGA6.out.d j hj; exact .inr ⟨C, t, m, hc, by rw [ht]; decide⟩)).kept hgS (fun j hj => by cases hj; exact .inl HGB.out)
    · rw [HF.out]
      refine PGot.step (PGot.step ?_ HGW.out (fun j hj => ⟨by have := o_from HGA6.out.d j hj; have := HPB.out; omega, ?_⟩)) hgS (fun j hj => by cases hj; exact ⟨HGP.out, _, _, _, HG7.out, by decide⟩)
      · exact PB.mono HGOT6.out (by omega)
      · obtain ⟨C, t, m, hc, ht⟩ := o_block HGA6.out.d j hj
        exact ⟨C, t, m, hc, by rw [ht]; decide⟩

set_option maxRecDepth 100000 in
set_option maxHeartbeats 16000000 in
theorem clause_darity {P : Nat} {L : List TP} {N : Nat} {A : Option Addr} {c nx base G B : Nat} {ds : List DeclL} {rs : List RuleL} {Ad Ar : Option Addr} {cd cr : Nat} (w : World) (hnx : nx ≤ L.length) (hS : PS P L N nx 0 0 A c w) (hmax : ∀ p ∈ L, p.1.s.length ≤ 65536) (hga : GAt base G w ds rs Ad Ar cd cr)
    (hPb : P < base) (hGb : G < base) (hGP : G ≠ P) (hbase : base ≤ w.heap.size) (hBP : B ≤ P) (hBG : B ≤ G) (hds : ds.length ≤ 400) (hrs : rs.length ≤ 400) (k : Nat) (s : List UInt8) (n : Int) (q : Bool) (a : Nat) (hp : pk N (L.drop nx) 0 = (⟨k, s, n, q⟩, a)) (hv : isM N (L.drop nx) 1 [47] = true) (h4 : (((ds.length : Nat) : Int) == 400) = false) (p0 : List UInt8) (r1 : List TP) (ho : nameP N (L.drop nx) = .ok p0 r1) (a0 e0 : Nat) (hr : arityP N r1.tail = .bad a0 e0) :
    Calls Tryd.prog 13 #[.pointer (some ⟨P, 0, none⟩), .pointer (some ⟨G, 0, none⟩)] w fun e w' => e = .returned (.tuple #[]) ∧ Below B w w' ∧ ∃ ds' rs' Ad' Ar' cd' cr', GAt base G w' ds' rs' Ad' Ar' cd' cr' ∧ PGot P L N A c 66000 (clauseM N ds rs (L.drop nx)) (fun y => y = (ds', rs')) w' := by
  have HP := Lib.hid hp
  have HLT := Lib.hid hS.lt
  have HN := Lib.hid hS.n
  have HNX := Lib.hid hnx
  have HMAX := Lib.hid hmax
  have HGA := Lib.hid hga
  have HPB := Lib.hid hPb
  have HGB := Lib.hid hGb
  have HGP := Lib.hid hGP
  have HBASE := Lib.hid hbase
  have HBP := Lib.hid hBP
  have HBG := Lib.hid hBG
  have HDS := Lib.hid hds
  have HRS := Lib.hid hrs
  have HS := Lib.hid (fun W (hb : Below w.heap.size w W) => hS.below hb)
  clear hS hnx hmax hga hPb hGb hGP hbase hBP hBG hds hrs
  obtain ⟨i0, hi, hz0, hz1, hz2⟩ := info_parts decl_info
  have HDV := Lib.hid hv
  have HO := Lib.hid ho
  have HAR := Lib.hid hr
  obtain ⟨⟨⟨k2, s2, n2, q2⟩, a2⟩, hpp⟩ : ∃ p, pk N r1 0 = p := ⟨_, rfl⟩
  have HPP := Lib.hid hpp
  have HIN := Lib.hid (slash_in hv)
  have HTL := Lib.hid (name_tail ho)
  have HF := Lib.hid (show clauseM N ds rs (L.drop nx) = .bad a0 e0 by
    unfold clauseM
    have h5 : (ds.length == 400) = false := by simp at h4 ⊢; omega
    rw [hv]
    simp only [h5, if_true, Bool.false_eq_true, if_false]
    unfold declP
    rw [ho]
    simp only [hr]
    rfl)
  clear hv ho hp hr hpp
  go_enter Tryd.func13, Tryd.ntmps13
  go_wp2_with (first
    | (go_at_call 18; ((with_reducible refine (declares_calls true _ (HS.out _ ((Below.refl _ _).alloc (Nat.le_refl _) _)) HDV.out).mono ?_); rintro e w1 ⟨rfl, hb1⟩; have HB1 := Lib.hid (below_then' ((Below.refl w.heap.size w).alloc (Nat.le_refl _) (.cells #[.pointer (some ⟨P, 0, none⟩)] 48)) hb1 (Nat.le_refl _)); have hbx1 := blk_keep (heap_alloc_new w (.cells #[.pointer (some ⟨P, 0, none⟩)] 48)) (grown_below hb1 none) (by simp); have pb1 := cell_of_row w1 w.heap.size 0 _ _ _ hbx1; have HBX1 := Lib.hid hbx1; clear hb1 hbx1))
    | (go_at_call 16; ((with_reducible refine (peek0_calls ⟨k, s, n, q⟩ a _ (HS.out _ HB1.out) HP.out).mono ?_); rintro e w2 ⟨rfl, hb2⟩; have hW2 := grown_trans (grown_below (below_then' HB1.out hb2 (Nat.le_refl _)) (some P)) (World.grownBy_alloc w2 (.cells #[.int .i64 (k : Int), .string (bs s), .int .i64 n, .bool q, .int .i64 (a : Int)] 60) (some P)); have hbx2 := blk_keep (blk_keep HBX1.out (grown_below hb2 none) (by simp)) (World.grownBy_alloc w2 (.cells #[.int .i64 (k : Int), .string (bs s), .int .i64 n, .bool q, .int .i64 (a : Int)] 60) none) (by simp); have pb2 := cell_of_row (w2.alloc (.cells #[.int .i64 (k : Int), .string (bs s), .int .i64 n, .bool q, .int .i64 (a : Int)] 60)) w.heap.size 0 _ _ _ hbx2; have HBX2 := Lib.hid hbx2; have hga2 := HGA.out.kept hW2 HPB.out HGP.out; have g0 := cell_of_row (w2.alloc (.cells #[.int .i64 (k : Int), .string (bs s), .int .i64 n, .bool q, .int .i64 (a : Int)] 60)) G 0 _ _ _ hga2.b; have g1 := cell_of_row (w2.alloc (.cells #[.int .i64 (k : Int), .string (bs s), .int .i64 n, .bool q, .int .i64 (a : Int)] 60)) G 1 _ _ _ hga2.b; have HS2 := Lib.hid (HS.out _ (below_then' (below_then' HB1.out hb2 (Nat.le_refl _)) ((Below.refl w2.heap.size w2).alloc (Nat.le_refl _) (.cells #[.int .i64 (k : Int), .string (bs s), .int .i64 n, .bool q, .int .i64 (a : Int)] 60)) (Nat.le_refl _))); have HW2 := Lib.hid hW2; clear hb2 hW2 hbx2 hga2 pb1))
    | (go_at_call 19; ((with_reducible refine (name_calls _ (po_mk HNX.out HS2.out) HMAX.out).mono ?_); rintro e w3 ⟨hg3, x, rfl, hgot⟩; rw [HO.out] at hgot; obtain ⟨hxx, nx1, hnx1, hr1, hS1⟩ := hgot; have HLT3 := Lib.hid (show P < w3.heap.size from hS1.lt); have HS3 := Lib.hid (hS1.below ((Below.refl w3.heap.size w3).alloc (Nat.le_refl _) (.cells #[.string (bs x), .int .i64 0] 66))); have HEL3 := Lib.hid (heap_alloc_new w3 (.cells #[.string (bs x), .int .i64 0] 66)); have hbx := blk_keep (blk_keep HBX2.out hg3 (by have := HLT.out; simp; omega)) (World.grownBy_alloc w3 (.cells #[.string (bs x), .int .i64 0] 66) none) (by simp); have pb3 := cell_of_row (w3.alloc (.cells #[.string (bs x), .int .i64 0] 66)) w.heap.size 0 _ _ _ hbx; have HBX3 := Lib.hid hbx; have HW3 := Lib.hid (grown_trans HW2.out (grown_trans hg3 (World.grownBy_alloc w3 (.cells #[.string (bs x), .int .i64 0] 66) _))); have HV3 := Lib.hid (World.grownBy_alloc w3 (.cells #[.string (bs x), .int .i64 0] 66) (some P)); have HXX := Lib.hid hxx; have HR1 := Lib.hid hr1; have HPP2 := Lib.hid (show pk N (L.drop nx1) 0 = (⟨k2, s2, n2, q2⟩, a2) by rw [hr1]; exact HPP.out); have HP2 := Lib.hid HPP2.out; have HX2 := Lib.hid (show nx1 + 1 ≤ 1000000 by have := HN.out; omega); have HIN1 := Lib.hid (show nx1 + 1 ≤ L.length by have h1 := congrArg List.length (hr1.trans HTL.out); have h2 := HIN.out; simp at h1; omega); have HR2 := Lib.hid (show L.drop (nx1 + 1) = r1.tail by rw [← hr1, List.tail_drop]); clear hxx hnx1 hr1; have HSZ3 := Lib.hid hg3.size; clear hg3 hS1 hbx g0 g1))
    | (go_at_call 20; ((with_reducible refine (takeA_calls _ k2 s2 n2 q2 a2 _ HS3.out HX2.out HP2.out rfl).mono ?_); rintro e w4 ⟨rfl, hs4, hg4⟩; have HS4 := Lib.hid hs4; have hbx := blk_keep HBX3.out hg4 (by have := HLT.out; simp; omega); have pb4 := cell_of_row w4 w.heap.size 0 _ _ _ hbx; have HBX4 := Lib.hid hbx; have HEL4 := Lib.hid (blk_keep HEL3.out hg4 (by have := HLT3.out; simp; omega)); have HW4 := Lib.hid (grown_trans HW3.out hg4); have HV4 := Lib.hid (grown_trans HV3.out hg4); clear hbx; clear hs4 hg4))
    | (go_at_call 12; ((with_reducible refine (pok_calls true _ HS4.out rfl).mono ?_); rintro e w' ⟨rfl, rfl⟩))
    | (go_at_call 21; ((with_reducible refine (arity_calls (r := L.drop (nx1 + 1)) _ (po_mk HIN1.out HS4.out)).mono ?_); rintro e w5 ⟨hg5, n5, rfl, hgot5⟩; rw [HR2.out, HAR.out] at hgot5; have hbx := blk_keep HBX4.out hg5 (by have := HLT.out; simp; omega); have pb5 := cell_of_row w5 w.heap.size 0 _ _ _ hbx; have HBX5 := Lib.hid hbx; have HEL5 := Lib.hid (blk_keep HEL4.out hg5 (by have := HLT3.out; simp; omega)); have HW5 := Lib.hid (grown_trans HW4.out hg5); have HV5 := Lib.hid (grown_trans HV4.out hg5); clear hbx; have p1 := cell_of_row w5 w3.heap.size 1 _ _ _ HEL5.out; have f1 := frozen_of_row w5 w3.heap.size 1 _ _ HEL5.out; have HELS := Lib.hid (set_at (i := 1) (cs' := #[.string (bs x), .int .i64 n5]) HEL5.out (.int .i64 n5) rfl); have hS5 := grown_set (World.grownBy.refl w5 (some w3.heap.size)) 1 (.int .i64 n5); have hbx := blk_keep HBX5.out hS5 (by have := (Array.getElem?_eq_some_iff.1 HBX2.out).1; have := HSZ3.out; simp; omega); have pbS := cell_of_row (w5.setCell ⟨w3.heap.size, 1, none⟩ (.int .i64 n5)) w.heap.size 0 _ _ _ hbx; have HBXS := Lib.hid hbx; have HVS := Lib.hid (grown_setNew (T := w3.heap.size) HV5.out (Nat.le_refl _) 1 (.int .i64 n5)); have HWS := Lib.hid (grown_setNew (T := w3.heap.size) HW5.out (by have := HSZ3.out; have := (Array.getElem?_eq_some_iff.1 HBX2.out).1; omega) 1 (.int .i64 n5)); have HGOTS := Lib.hid (PGot.step hgot5 hS5 (fun j hj => by cases hj; exact ⟨by have := HLT3.out; omega, _, _, _, HEL5.out, by decide⟩)); clear hg5 hgot5 hbx hS5))
    | (go_at_call 22; ((with_reducible refine (mark_bad_calls ⟨#[46]⟩ _ HGOTS.out.isBad ?_).mono ?_); (focus (first | omega | exact Nat.le_refl _)); rintro e w6 ⟨rfl, hg6, hgot6⟩; have hbx := blk_keep HBXS.out hg6 (by have := HLT.out; simp; omega); have pb6 := cell_of_row w6 w.heap.size 0 _ _ _ hbx; have HBX6 := Lib.hid hbx; have HEL6 := Lib.hid (blk_keep HELS.out hg6 (by have := HLT3.out; simp; omega)); have HW6 := Lib.hid (grown_trans HWS.out hg6); have HV6 := Lib.hid (grown_trans HVS.out hg6); clear hbx; have hga6 := HGA.out.kept HW6.out HPB.out HGP.out; have g0 := cell_of_row w6 G 0 _ _ _ hga6.b; have g1 := cell_of_row w6 G 1 _ _ _ hga6.b; have g0a := fun o => cell_below ((Below.refl w6.heap.size w6).alloc (Nat.le_refl _) o) g0; have g1a := fun o => cell_below ((Below.refl w6.heap.size w6).alloc (Nat.le_refl _) o) g1; have e0 := cell_of_row w6 w3.heap.size 0 _ _ _ HEL6.out; have e1 := cell_of_row w6 w3.heap.size 1 _ _ _ HEL6.out; have HGA6 := Lib.hid hga6; have HGOT6 := Lib.hid hgot6; clear hg6 hgot6 hga6)))
  go_region_law (first
    | (refine step_append_lies _ rfl (.tmp 57) (.tmp 59) 23 rfl base 66 i0 (.agg #[.string ⟨#[]⟩, .int .i64 0]) 2 24 Tryd.underlying23 hi hz0 hz1 hz2 ?_ ?_ (.slice Ad ds.length cd) ds.length (ds.flatMap declC) ?_ ?_ ⟨w6.heap.size, 0, none⟩ 1 1 [.string (bs x), .int .i64 n5] ?_ ?_ ?_ ?_ ?_ ?_ ?_ ?_ _ rfl ?_; rfl; decide; rfl; exact HGA6.out.d.alloc _; rfl; rfl; exact o_cells #[.string (bs x), .int .i64 n5] 66; (intro u hu; simp at hu; rcases hu with rfl | rfl <;> rfl); decide; (have := HDS.out; unfold maxLen; omega); (have := HDS.out; omega); (have := HBASE.out; have := HW6.out.size; simp; omega); intro g cap W7 hown hgrow hat hlt; have hgW : w6.grownBy W7 (Value.ownBlock (.slice Ad ds.length cd)) := grown_trans (World.grownBy_alloc w6 (.cells #[.string (bs x), .int .i64 n5] 66) _) (un_drew hgrow); have hg7 := blk_keep HGA6.out.b hgW (o_ne HGA6.out.d HGA6.out.b (by decide)); have hs7 := cell_of_row W7 G 0 _ _ _ hg7; have hf7 := frozen_of_row W7 G 0 _ _ hg7; have HG7 := Lib.hid hg7; have HOWN := Lib.hid hown; have HGW := Lib.hid hgW; clear hown hgrow hat hlt hgW hg7))
  all_goals
    go_wp2_with fail
    have hgS := grown_set (World.grownBy.refl W7 (some G)) 0 (.slice (some ⟨g, 0, none⟩) (ds.length + 1) cap)
    have hown := HOWN.out
    refine bodyPost_ret (results_none rfl _ _ _) rfl ?_
    refine ⟨rfl, ((below_ofP HW6.out HBP.out (Nat.le_trans HBP.out (Nat.le_of_lt HLT.out))).grown HGW.out (Nat.le_trans HBP.out (Nat.le_trans (Nat.le_of_lt HLT.out) HW6.out.size)) (fun j hj => by have := o_from HGA6.out.d j hj; have := HBP.out; have := HPB.out; omega)).setCell HBG.out _, ds ++ [⟨x, n5⟩], rs, some ⟨g, 0, none⟩, Ar, cap, cr, ⟨?_, ?_, ?_⟩, ?_⟩
    · rw [List.length_append, List.length_singleton]
      exact set_at HG7.out _ rfl
    · unfold DeclsAt
      rw [List.length_append, List.length_singleton, List.flatMap_append]
      exact o_keptR hown hgS (fun j hj => by cases hj; exact .inl HGB.out)
    · exact (HGA6.out.r.kept HGW.out (fun j hj => by obtain ⟨C, t, m, hc, ht⟩ := o_block HGA6.out.d j hj; exact .inr ⟨C, t, m, hc, by rw [ht]; decide⟩)).kept hgS (fun j hj => by cases hj; exact .inl HGB.out)
    · rw [HF.out]
      refine PGot.step (PGot.step ?_ HGW.out (fun j hj => ⟨by have := o_from HGA6.out.d j hj; have := HPB.out; omega, ?_⟩)) hgS (fun j hj => by cases hj; exact ⟨HGP.out, _, _, _, HG7.out, by decide⟩)
      · exact PB.mono HGOT6.out (by omega)
      · obtain ⟨C, t, m, hc, ht⟩ := o_block HGA6.out.d j hj
        exact ⟨C, t, m, hc, by rw [ht]; decide⟩

set_option maxRecDepth 100000 in
set_option maxHeartbeats 16000000 in
theorem clause_ddecl {P : Nat} {L : List TP} {N : Nat} {A : Option Addr} {c nx base G B : Nat} {ds : List DeclL} {rs : List RuleL} {Ad Ar : Option Addr} {cd cr : Nat} (w : World) (hnx : nx ≤ L.length) (hS : PS P L N nx 0 0 A c w) (hmax : ∀ p ∈ L, p.1.s.length ≤ 65536) (hga : GAt base G w ds rs Ad Ar cd cr)
    (hPb : P < base) (hGb : G < base) (hGP : G ≠ P) (hbase : base ≤ w.heap.size) (hBP : B ≤ P) (hBG : B ≤ G) (hds : ds.length ≤ 400) (hrs : rs.length ≤ 400) (k : Nat) (s : List UInt8) (n : Int) (q : Bool) (a : Nat) (hp : pk N (L.drop nx) 0 = (⟨k, s, n, q⟩, a)) (hv : isM N (L.drop nx) 1 [47] = true) (h4 : (((ds.length : Nat) : Int) == 400) = false) (p0 : List UInt8) (r1 : List TP) (ho : nameP N (L.drop nx) = .ok p0 r1) (m0 : Int) (r2 : List TP) (hr : arityP N r1.tail = .ok m0 r2) :
    Calls Tryd.prog 13 #[.pointer (some ⟨P, 0, none⟩), .pointer (some ⟨G, 0, none⟩)] w fun e w' => e = .returned (.tuple #[]) ∧ Below B w w' ∧ ∃ ds' rs' Ad' Ar' cd' cr', GAt base G w' ds' rs' Ad' Ar' cd' cr' ∧ PGot P L N A c 66000 (clauseM N ds rs (L.drop nx)) (fun y => y = (ds', rs')) w' := by
  have HP := Lib.hid hp
  have HLT := Lib.hid hS.lt
  have HN := Lib.hid hS.n
  have HNX := Lib.hid hnx
  have HMAX := Lib.hid hmax
  have HGA := Lib.hid hga
  have HPB := Lib.hid hPb
  have HGB := Lib.hid hGb
  have HGP := Lib.hid hGP
  have HBASE := Lib.hid hbase
  have HBP := Lib.hid hBP
  have HBG := Lib.hid hBG
  have HDS := Lib.hid hds
  have HRS := Lib.hid hrs
  have HS := Lib.hid (fun W (hb : Below w.heap.size w W) => hS.below hb)
  clear hS hnx hmax hga hPb hGb hGP hbase hBP hBG hds hrs
  obtain ⟨i0, hi, hz0, hz1, hz2⟩ := info_parts decl_info
  have HDV := Lib.hid hv
  have HO := Lib.hid ho
  have HAR := Lib.hid hr
  obtain ⟨⟨⟨k2, s2, n2, q2⟩, a2⟩, hpp⟩ : ∃ p, pk N r1 0 = p := ⟨_, rfl⟩
  have HPP := Lib.hid hpp
  have HIN := Lib.hid (slash_in hv)
  have HTL := Lib.hid (name_tail ho)
  have HF := Lib.hid (show clauseM N ds rs (L.drop nx) = (markP N [46] (⟨p0, m0⟩ : DeclL) r2).map fun d => (ds ++ [d], rs) by
    unfold clauseM
    have h5 : (ds.length == 400) = false := by simp at h4 ⊢; omega
    rw [hv]
    simp only [h5, if_true, Bool.false_eq_true, if_false]
    unfold declP
    rw [ho]
    simp only [hr])
  clear hv ho hp hr hpp
  go_enter Tryd.func13, Tryd.ntmps13
  go_wp2_with (first
    | (go_at_call 18; ((with_reducible refine (declares_calls true _ (HS.out _ ((Below.refl _ _).alloc (Nat.le_refl _) _)) HDV.out).mono ?_); rintro e w1 ⟨rfl, hb1⟩; have HB1 := Lib.hid (below_then' ((Below.refl w.heap.size w).alloc (Nat.le_refl _) (.cells #[.pointer (some ⟨P, 0, none⟩)] 48)) hb1 (Nat.le_refl _)); have hbx1 := blk_keep (heap_alloc_new w (.cells #[.pointer (some ⟨P, 0, none⟩)] 48)) (grown_below hb1 none) (by simp); have pb1 := cell_of_row w1 w.heap.size 0 _ _ _ hbx1; have HBX1 := Lib.hid hbx1; clear hb1 hbx1))
    | (go_at_call 16; ((with_reducible refine (peek0_calls ⟨k, s, n, q⟩ a _ (HS.out _ HB1.out) HP.out).mono ?_); rintro e w2 ⟨rfl, hb2⟩; have hW2 := grown_trans (grown_below (below_then' HB1.out hb2 (Nat.le_refl _)) (some P)) (World.grownBy_alloc w2 (.cells #[.int .i64 (k : Int), .string (bs s), .int .i64 n, .bool q, .int .i64 (a : Int)] 60) (some P)); have hbx2 := blk_keep (blk_keep HBX1.out (grown_below hb2 none) (by simp)) (World.grownBy_alloc w2 (.cells #[.int .i64 (k : Int), .string (bs s), .int .i64 n, .bool q, .int .i64 (a : Int)] 60) none) (by simp); have pb2 := cell_of_row (w2.alloc (.cells #[.int .i64 (k : Int), .string (bs s), .int .i64 n, .bool q, .int .i64 (a : Int)] 60)) w.heap.size 0 _ _ _ hbx2; have HBX2 := Lib.hid hbx2; have hga2 := HGA.out.kept hW2 HPB.out HGP.out; have g0 := cell_of_row (w2.alloc (.cells #[.int .i64 (k : Int), .string (bs s), .int .i64 n, .bool q, .int .i64 (a : Int)] 60)) G 0 _ _ _ hga2.b; have g1 := cell_of_row (w2.alloc (.cells #[.int .i64 (k : Int), .string (bs s), .int .i64 n, .bool q, .int .i64 (a : Int)] 60)) G 1 _ _ _ hga2.b; have HS2 := Lib.hid (HS.out _ (below_then' (below_then' HB1.out hb2 (Nat.le_refl _)) ((Below.refl w2.heap.size w2).alloc (Nat.le_refl _) (.cells #[.int .i64 (k : Int), .string (bs s), .int .i64 n, .bool q, .int .i64 (a : Int)] 60)) (Nat.le_refl _))); have HW2 := Lib.hid hW2; clear hb2 hW2 hbx2 hga2 pb1))
    | (go_at_call 19; ((with_reducible refine (name_calls _ (po_mk HNX.out HS2.out) HMAX.out).mono ?_); rintro e w3 ⟨hg3, x, rfl, hgot⟩; rw [HO.out] at hgot; obtain ⟨hxx, nx1, hnx1, hr1, hS1⟩ := hgot; have HLT3 := Lib.hid (show P < w3.heap.size from hS1.lt); have HS3 := Lib.hid (hS1.below ((Below.refl w3.heap.size w3).alloc (Nat.le_refl _) (.cells #[.string (bs x), .int .i64 0] 66))); have HEL3 := Lib.hid (heap_alloc_new w3 (.cells #[.string (bs x), .int .i64 0] 66)); have hbx := blk_keep (blk_keep HBX2.out hg3 (by have := HLT.out; simp; omega)) (World.grownBy_alloc w3 (.cells #[.string (bs x), .int .i64 0] 66) none) (by simp); have pb3 := cell_of_row (w3.alloc (.cells #[.string (bs x), .int .i64 0] 66)) w.heap.size 0 _ _ _ hbx; have HBX3 := Lib.hid hbx; have HW3 := Lib.hid (grown_trans HW2.out (grown_trans hg3 (World.grownBy_alloc w3 (.cells #[.string (bs x), .int .i64 0] 66) _))); have HV3 := Lib.hid (World.grownBy_alloc w3 (.cells #[.string (bs x), .int .i64 0] 66) (some P)); have HXX := Lib.hid hxx; have HR1 := Lib.hid hr1; have HPP2 := Lib.hid (show pk N (L.drop nx1) 0 = (⟨k2, s2, n2, q2⟩, a2) by rw [hr1]; exact HPP.out); have HP2 := Lib.hid HPP2.out; have HX2 := Lib.hid (show nx1 + 1 ≤ 1000000 by have := HN.out; omega); have HIN1 := Lib.hid (show nx1 + 1 ≤ L.length by have h1 := congrArg List.length (hr1.trans HTL.out); have h2 := HIN.out; simp at h1; omega); have HR2 := Lib.hid (show L.drop (nx1 + 1) = r1.tail by rw [← hr1, List.tail_drop]); clear hxx hnx1 hr1; have HSZ3 := Lib.hid hg3.size; clear hg3 hS1 hbx g0 g1))
    | (go_at_call 20; ((with_reducible refine (takeA_calls _ k2 s2 n2 q2 a2 _ HS3.out HX2.out HP2.out rfl).mono ?_); rintro e w4 ⟨rfl, hs4, hg4⟩; have HS4 := Lib.hid hs4; have hbx := blk_keep HBX3.out hg4 (by have := HLT.out; simp; omega); have pb4 := cell_of_row w4 w.heap.size 0 _ _ _ hbx; have HBX4 := Lib.hid hbx; have HEL4 := Lib.hid (blk_keep HEL3.out hg4 (by have := HLT3.out; simp; omega)); have HW4 := Lib.hid (grown_trans HW3.out hg4); have HV4 := Lib.hid (grown_trans HV3.out hg4); clear hbx; clear hs4 hg4))
    | (go_at_call 12; ((with_reducible refine (pok_calls true _ HS4.out rfl).mono ?_); rintro e w' ⟨rfl, rfl⟩))
    | (go_at_call 21; ((with_reducible refine (arity_calls (r := L.drop (nx1 + 1)) _ (po_mk HIN1.out HS4.out)).mono ?_); rintro e w5 ⟨hg5, n5, rfl, hgot5⟩; rw [HR2.out, HAR.out] at hgot5; have hbx := blk_keep HBX4.out hg5 (by have := HLT.out; simp; omega); have pb5 := cell_of_row w5 w.heap.size 0 _ _ _ hbx; have HBX5 := Lib.hid hbx; have HEL5 := Lib.hid (blk_keep HEL4.out hg5 (by have := HLT3.out; simp; omega)); have HW5 := Lib.hid (grown_trans HW4.out hg5); have HV5 := Lib.hid (grown_trans HV4.out hg5); clear hbx; have p1 := cell_of_row w5 w3.heap.size 1 _ _ _ HEL5.out; have f1 := frozen_of_row w5 w3.heap.size 1 _ _ HEL5.out; have HELS := Lib.hid (set_at (i := 1) (cs' := #[.string (bs x), .int .i64 n5]) HEL5.out (.int .i64 n5) rfl); have hS5 := grown_set (World.grownBy.refl w5 (some w3.heap.size)) 1 (.int .i64 n5); have hbx := blk_keep HBX5.out hS5 (by have := (Array.getElem?_eq_some_iff.1 HBX2.out).1; have := HSZ3.out; simp; omega); have pbS := cell_of_row (w5.setCell ⟨w3.heap.size, 1, none⟩ (.int .i64 n5)) w.heap.size 0 _ _ _ hbx; have HBXS := Lib.hid hbx; have HVS := Lib.hid (grown_setNew (T := w3.heap.size) HV5.out (Nat.le_refl _) 1 (.int .i64 n5)); have HWS := Lib.hid (grown_setNew (T := w3.heap.size) HW5.out (by have := HSZ3.out; have := (Array.getElem?_eq_some_iff.1 HBX2.out).1; omega) 1 (.int .i64 n5)); have HGOTS := Lib.hid (PGot.step hgot5 hS5 (fun j hj => by cases hj; exact ⟨by have := HLT3.out; omega, _, _, _, HEL5.out, by decide⟩)); clear hg5 hgot5 hbx hS5))
    | (go_at_call 22; ((with_reducible refine (mark_ok_calls ⟨#[46]⟩ _ HGOTS.out.isOk.2 ?_).mono ?_); (focus (first | omega | exact Nat.le_refl _)); rintro e w6 ⟨rfl, hg6, hgot6⟩; have hbx := blk_keep HBXS.out hg6 (by have := HLT.out; simp; omega); have pb6 := cell_of_row w6 w.heap.size 0 _ _ _ hbx; have HBX6 := Lib.hid hbx; have HEL6 := Lib.hid (blk_keep HELS.out hg6 (by have := HLT3.out; simp; omega)); have HW6 := Lib.hid (grown_trans HWS.out hg6); have HV6 := Lib.hid (grown_trans HVS.out hg6); clear hbx; have hga6 := HGA.out.kept HW6.out HPB.out HGP.out; have g0 := cell_of_row w6 G 0 _ _ _ hga6.b; have g1 := cell_of_row w6 G 1 _ _ _ hga6.b; have g0a := fun o => cell_below ((Below.refl w6.heap.size w6).alloc (Nat.le_refl _) o) g0; have g1a := fun o => cell_below ((Below.refl w6.heap.size w6).alloc (Nat.le_refl _) o) g1; have e0 := cell_of_row w6 w3.heap.size 0 _ _ _ HEL6.out; have e1 := cell_of_row w6 w3.heap.size 1 _ _ _ HEL6.out; have HGA6 := Lib.hid hga6; have HGOT6 := Lib.hid hgot6; clear hg6 hgot6 hga6)))
  go_region_law (first
    | (refine step_append_lies _ rfl (.tmp 57) (.tmp 59) 23 rfl base 66 i0 (.agg #[.string ⟨#[]⟩, .int .i64 0]) 2 24 Tryd.underlying23 hi hz0 hz1 hz2 ?_ ?_ (.slice Ad ds.length cd) ds.length (ds.flatMap declC) ?_ ?_ ⟨w6.heap.size, 0, none⟩ 1 1 [.string (bs x), .int .i64 n5] ?_ ?_ ?_ ?_ ?_ ?_ ?_ ?_ _ rfl ?_; rfl; decide; rfl; exact HGA6.out.d.alloc _; rfl; rfl; exact o_cells #[.string (bs x), .int .i64 n5] 66; (intro u hu; simp at hu; rcases hu with rfl | rfl <;> rfl); decide; (have := HDS.out; unfold maxLen; omega); (have := HDS.out; omega); (have := HBASE.out; have := HW6.out.size; simp; omega); intro g cap W7 hown hgrow hat hlt; have hgW : w6.grownBy W7 (Value.ownBlock (.slice Ad ds.length cd)) := grown_trans (World.grownBy_alloc w6 (.cells #[.string (bs x), .int .i64 n5] 66) _) (un_drew hgrow); have hg7 := blk_keep HGA6.out.b hgW (o_ne HGA6.out.d HGA6.out.b (by decide)); have hs7 := cell_of_row W7 G 0 _ _ _ hg7; have hf7 := frozen_of_row W7 G 0 _ _ hg7; have HG7 := Lib.hid hg7; have HOWN := Lib.hid hown; have HGW := Lib.hid hgW; clear hown hgrow hat hlt hgW hg7))
  all_goals
    go_wp2_with fail
    have hgS := grown_set (World.grownBy.refl W7 (some G)) 0 (.slice (some ⟨g, 0, none⟩) (ds.length + 1) cap)
    have hown := HOWN.out
    refine bodyPost_ret (results_none rfl _ _ _) rfl ?_
    refine ⟨rfl, ((below_ofP HW6.out HBP.out (Nat.le_trans HBP.out (Nat.le_of_lt HLT.out))).grown HGW.out (Nat.le_trans HBP.out (Nat.le_trans (Nat.le_of_lt HLT.out) HW6.out.size)) (fun j hj => by have := o_from HGA6.out.d j hj; have := HBP.out; have := HPB.out; omega)).setCell HBG.out _, ds ++ [⟨x, n5⟩], rs, some ⟨g, 0, none⟩, Ar, cap, cr, ⟨?_, ?_, ?_⟩, ?_⟩
    · rw [List.length_append, List.length_singleton]
      exact set_at HG7.out _ rfl
    · unfold DeclsAt
      rw [List.length_append, List.length_singleton, List.flatMap_append]
      exact o_keptR hown hgS (fun j hj => by cases hj; exact .inl HGB.out)
    · exact (HGA6.out.r.kept HGW.out (fun j hj => by obtain ⟨C, t, m, hc, ht⟩ := o_block HGA6.out.d j hj; exact .inr ⟨C, t, m, hc, by rw [ht]; decide⟩)).kept hgS (fun j hj => by cases hj; exact .inl HGB.out)
    · rw [HF.out]
      refine PGot.step (PGot.step ?_ HGW.out (fun j hj => ⟨by have := o_from HGA6.out.d j hj; have := HPB.out; omega, ?_⟩)) hgS (fun j hj => by cases hj; exact ⟨HGP.out, _, _, _, HG7.out, by decide⟩)
      · exact (mark_rel (⟨p0, m0⟩ : DeclL) HGOT6.out).map _ (by omega) (fun y hy => by rw [hy, HXX.out, HGOTS.out.isOk.1])
      · obtain ⟨C, t, m, hc, ht⟩ := o_block HGA6.out.d j hj
        exact ⟨C, t, m, hc, by rw [ht]; decide⟩

end Go.Proofs.YthhfjimhfehimaaDoor.V
