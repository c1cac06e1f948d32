/- (*parser).clause: a declaration. (*parser).clause: a rule. (*parser).clause: a rule with a body. (*parser).clause whole; parsing; how long a token's text is. cmp.Compare at strings and at whole numbers, value.Compare, value.Same, the runes' kinds, Sym, Int: each by a contract; Compare's box is new memory. -/
import Derived.Test.YtminbdcabacfbaaGreatDoorKG8
namespace Go.Proofs.YtminbdcabacfbaaGreatDoor.V
set_option linter.unusedVariables false
set_option linter.unusedSimpArgs false
open Go.RowKit

theorem po_at {P : Nat} {L : List TP} {N : Nat} {A : Option Addr} {c nx : Nat} {r : List TP} {W : World} (h1 : nx ≤ L.length) (h2 : L.drop nx = r) (h3 : PS P L N nx 0 0 A c W) : PO P L N A c r W := ⟨nx, h1, h2, h3⟩
/-- A state that something is wrong in. -/
theorem pb_mk {P : Nat} {L : List TP} {N : Nat} {A : Option Addr} {c a e m nx : Nat} {W : World} (h0 : e ≠ 0) (h1 : nx ≤ m) (h3 : PS P L N nx (a : Int) (e : Int) A c W) : PB P L N A c a e m W := ⟨h0, nx, h1, h3⟩
/-- What grew by the parser's block alone. -/
theorem below_ofP {w w' : World} {P B : Nat} (h : w.grownBy w' (some P)) (hB : B ≤ P) (hB2 : B ≤ w.heap.size) : Below B w w' := (Below.refl B w).grown h hB2 (fun k hk => by cases hk; exact hB)

set_option maxRecDepth 100000 in
set_option maxHeartbeats 16000000 in
theorem clause_dfull {P : Nat} {L : List TP} {N : Nat} {A : Option Addr} {c nx base G B : Nat} {ds : List DeclL} {rs : List RuleL} {Ad Ar : Option Addr} {cd cr : Nat} (w : World) (hnx : nx ≤ L.length) (hS : PS P L N nx 0 0 A c w) (hmax : ∀ p ∈ L, p.1.s.length ≤ 65536) (hga : GAt base G w ds rs Ad Ar cd cr)
    (hPb : P < base) (hGb : G < base) (hGP : G ≠ P) (hbase : base ≤ w.heap.size) (hBP : B ≤ P) (hBG : B ≤ G) (hds : ds.length ≤ 400) (hrs : rs.length ≤ 400) (k : Nat) (s : List UInt8) (n : Int) (q : Bool) (a : Nat) (hp : pk N (L.drop nx) 0 = (⟨k, s, n, q⟩, a)) (hv : isM N (L.drop nx) 1 [47] = true) (h4 : (((ds.length : Nat) : Int) == 400) = true) :
    Calls Tryz.prog 52 #[.pointer (some ⟨P, 0, none⟩), .pointer (some ⟨G, 0, none⟩)] w fun e w' => e = .returned (.tuple #[]) ∧ Below B w w' ∧ ∃ ds' rs' Ad' Ar' cd' cr', GAt base G w' ds' rs' Ad' Ar' cd' cr' ∧ PGot P L N A c 66000 (clauseM N ds rs (L.drop nx)) (fun y => y = (ds', rs')) w' := by
  have HP := Lib.hid hp
  have HLT := Lib.hid hS.lt
  have HN := Lib.hid hS.n
  have HNX := Lib.hid hnx
  have HMAX := Lib.hid hmax
  have HGA := Lib.hid hga
  have HPB := Lib.hid hPb
  have HGB := Lib.hid hGb
  have HGP := Lib.hid hGP
  have HBASE := Lib.hid hbase
  have HBP := Lib.hid hBP
  have HBG := Lib.hid hBG
  have HDS := Lib.hid hds
  have HRS := Lib.hid hrs
  have HS := Lib.hid (fun W (hb : Below w.heap.size w W) => hS.below hb)
  clear hS hnx hmax hga hPb hGb hGP hbase hBP hBG hds hrs
  have HDV := Lib.hid hv
  have HF := Lib.hid (show clauseM N ds rs (L.drop nx) = .bad a 4 by
    unfold clauseM
    have h5 : (ds.length == 400) = true := by simp at h4 ⊢; omega
    rw [hv, hp]
    simp [h5])
  clear hv hp
  go_enter Tryz.func52, Tryz.ntmps52
  go_wp2_with (first
    | (go_at_call 85; ((with_reducible refine (declares_calls true _ (HS.out _ ((Below.refl _ _).alloc (Nat.le_refl _) _)) HDV.out).mono ?_); rintro e w1 ⟨rfl, hb1⟩; have HB1 := Lib.hid (below_then' ((Below.refl w.heap.size w).alloc (Nat.le_refl _) (.cells #[.pointer (some ⟨P, 0, none⟩)] 61)) hb1 (Nat.le_refl _)); have hbx1 := blk_keep (heap_alloc_new w (.cells #[.pointer (some ⟨P, 0, none⟩)] 61)) (grown_below hb1 none) (by simp); have pb1 := cell_of_row w1 w.heap.size 0 _ _ _ hbx1; have HBX1 := Lib.hid hbx1; clear hb1 hbx1))
    | (go_at_call 36; ((with_reducible refine (peek0_calls ⟨k, s, n, q⟩ a _ (HS.out _ HB1.out) HP.out).mono ?_); rintro e w2 ⟨rfl, hb2⟩; have hW2 := grown_trans (grown_below (below_then' HB1.out hb2 (Nat.le_refl _)) (some P)) (World.grownBy_alloc w2 (.cells #[.int .i64 (k : Int), .string (bs s), .int .i64 n, .bool q, .int .i64 (a : Int)] 71) (some P)); have hbx2 := blk_keep (blk_keep HBX1.out (grown_below hb2 none) (by simp)) (World.grownBy_alloc w2 (.cells #[.int .i64 (k : Int), .string (bs s), .int .i64 n, .bool q, .int .i64 (a : Int)] 71) none) (by simp); have pb2 := cell_of_row (w2.alloc (.cells #[.int .i64 (k : Int), .string (bs s), .int .i64 n, .bool q, .int .i64 (a : Int)] 71)) w.heap.size 0 _ _ _ hbx2; have HBX2 := Lib.hid hbx2; have hga2 := HGA.out.kept hW2 HPB.out HGP.out; have g0 := cell_of_row (w2.alloc (.cells #[.int .i64 (k : Int), .string (bs s), .int .i64 n, .bool q, .int .i64 (a : Int)] 71)) G 0 _ _ _ hga2.b; have g1 := cell_of_row (w2.alloc (.cells #[.int .i64 (k : Int), .string (bs s), .int .i64 n, .bool q, .int .i64 (a : Int)] 71)) G 1 _ _ _ hga2.b; have HS2 := Lib.hid (HS.out _ (below_then' (below_then' HB1.out hb2 (Nat.le_refl _)) ((Below.refl w2.heap.size w2).alloc (Nat.le_refl _) (.cells #[.int .i64 (k : Int), .string (bs s), .int .i64 n, .bool q, .int .i64 (a : Int)] 71)) (Nat.le_refl _))); have HW2 := Lib.hid hW2; clear hb2 hW2 hbx2 hga2 pb1))
    | (go_at_call 35; ((with_reducible refine (fail_ok_calls _ (bs s) n q a 4 _ HS2.out).mono ?_); rintro e w3 ⟨rfl, hs3, hg3⟩; have HS3 := Lib.hid hs3; have HW3 := Lib.hid (grown_trans HW2.out hg3); clear hs3 hg3)))
  refine bodyPost_ret (results_none rfl _ _ _) rfl ?_
  refine ⟨rfl, below_ofP HW3.out HBP.out (Nat.le_trans HBP.out (Nat.le_of_lt HLT.out)), ds, rs, Ad, Ar, cd, cr, HGA.out.kept HW3.out HPB.out HGP.out, ?_⟩
  rw [HF.out]
  exact ⟨by omega, nx, by have := HNX.out; have := HN.out; omega, HS3.out⟩

set_option maxRecDepth 100000 in
set_option maxHeartbeats 16000000 in
theorem clause_rfull {P : Nat} {L : List TP} {N : Nat} {A : Option Addr} {c nx base G B : Nat} {ds : List DeclL} {rs : List RuleL} {Ad Ar : Option Addr} {cd cr : Nat} (w : World) (hnx : nx ≤ L.length) (hS : PS P L N nx 0 0 A c w) (hmax : ∀ p ∈ L, p.1.s.length ≤ 65536) (hga : GAt base G w ds rs Ad Ar cd cr)
    (hPb : P < base) (hGb : G < base) (hGP : G ≠ P) (hbase : base ≤ w.heap.size) (hBP : B ≤ P) (hBG : B ≤ G) (hds : ds.length ≤ 400) (hrs : rs.length ≤ 400) (k : Nat) (s : List UInt8) (n : Int) (q : Bool) (a : Nat) (hp : pk N (L.drop nx) 0 = (⟨k, s, n, q⟩, a)) (hv : isM N (L.drop nx) 1 [47] = false) (h4 : (((rs.length : Nat) : Int) == 400) = true) :
    Calls Tryz.prog 52 #[.pointer (some ⟨P, 0, none⟩), .pointer (some ⟨G, 0, none⟩)] w fun e w' => e = .returned (.tuple #[]) ∧ Below B w w' ∧ ∃ ds' rs' Ad' Ar' cd' cr', GAt base G w' ds' rs' Ad' Ar' cd' cr' ∧ PGot P L N A c 66000 (clauseM N ds rs (L.drop nx)) (fun y => y = (ds', rs')) w' := by
  have HP := Lib.hid hp
  have HLT := Lib.hid hS.lt
  have HN := Lib.hid hS.n
  have HNX := Lib.hid hnx
  have HMAX := Lib.hid hmax
  have HGA := Lib.hid hga
  have HPB := Lib.hid hPb
  have HGB := Lib.hid hGb
  have HGP := Lib.hid hGP
  have HBASE := Lib.hid hbase
  have HBP := Lib.hid hBP
  have HBG := Lib.hid hBG
  have HDS := Lib.hid hds
  have HRS := Lib.hid hrs
  have HS := Lib.hid (fun W (hb : Below w.heap.size w W) => hS.below hb)
  clear hS hnx hmax hga hPb hGb hGP hbase hBP hBG hds hrs
  have HDV := Lib.hid hv
  have HF := Lib.hid (show clauseM N ds rs (L.drop nx) = .bad a 4 by
    unfold clauseM
    have h5 : (rs.length == 400) = true := by simp at h4 ⊢; omega
    rw [hv, hp]
    simp [h5])
  clear hv hp
  go_enter Tryz.func52, Tryz.ntmps52
  go_wp2_with (first
    | (go_at_call 85; ((with_reducible refine (declares_calls false _ (HS.out _ ((Below.refl _ _).alloc (Nat.le_refl _) _)) HDV.out).mono ?_); rintro e w1 ⟨rfl, hb1⟩; have HB1 := Lib.hid (below_then' ((Below.refl w.heap.size w).alloc (Nat.le_refl _) (.cells #[.pointer (some ⟨P, 0, none⟩)] 61)) hb1 (Nat.le_refl _)); have hbx1 := blk_keep (heap_alloc_new w (.cells #[.pointer (some ⟨P, 0, none⟩)] 61)) (grown_below hb1 none) (by simp); have pb1 := cell_of_row w1 w.heap.size 0 _ _ _ hbx1; have HBX1 := Lib.hid hbx1; clear hb1 hbx1))
    | (go_at_call 36; ((with_reducible refine (peek0_calls ⟨k, s, n, q⟩ a _ (HS.out _ HB1.out) HP.out).mono ?_); rintro e w2 ⟨rfl, hb2⟩; have hW2 := grown_trans (grown_below (below_then' HB1.out hb2 (Nat.le_refl _)) (some P)) (World.grownBy_alloc w2 (.cells #[.int .i64 (k : Int), .string (bs s), .int .i64 n, .bool q, .int .i64 (a : Int)] 71) (some P)); have hbx2 := blk_keep (blk_keep HBX1.out (grown_below hb2 none) (by simp)) (World.grownBy_alloc w2 (.cells #[.int .i64 (k : Int), .string (bs s), .int .i64 n, .bool q, .int .i64 (a : Int)] 71) none) (by simp); have pb2 := cell_of_row (w2.alloc (.cells #[.int .i64 (k : Int), .string (bs s), .int .i64 n, .bool q, .int .i64 (a : Int)] 71)) w.heap.size 0 _ _ _ hbx2; have HBX2 := Lib.hid hbx2; have hga2 := HGA.out.kept hW2 HPB.out HGP.out; have g0 := cell_of_row (w2.alloc (.cells #[.int .i64 (k : Int), .string (bs s), .int .i64 n, .bool q, .int .i64 (a : Int)] 71)) G 0 _ _ _ hga2.b; have g1 := cell_of_row (w2.alloc (.cells #[.int .i64 (k : Int), .string (bs s), .int .i64 n, .bool q, .int .i64 (a : Int)] 71)) G 1 _ _ _ hga2.b; have HS2 := Lib.hid (HS.out _ (below_then' (below_then' HB1.out hb2 (Nat.le_refl _)) ((Below.refl w2.heap.size w2).alloc (Nat.le_refl _) (.cells #[.int .i64 (k : Int), .string (bs s), .int .i64 n, .bool q, .int .i64 (a : Int)] 71)) (Nat.le_refl _))); have HW2 := Lib.hid hW2; clear hb2 hW2 hbx2 hga2 pb1))
    | (go_at_call 35; ((with_reducible refine (fail_ok_calls _ (bs s) n q a 4 _ HS2.out).mono ?_); rintro e w3 ⟨rfl, hs3, hg3⟩; have HS3 := Lib.hid hs3; have HW3 := Lib.hid (grown_trans HW2.out hg3); clear hs3 hg3)))
  refine bodyPost_ret (results_none rfl _ _ _) rfl ?_
  refine ⟨rfl, below_ofP HW3.out HBP.out (Nat.le_trans HBP.out (Nat.le_of_lt HLT.out)), ds, rs, Ad, Ar, cd, cr, HGA.out.kept HW3.out HPB.out HGP.out, ?_⟩
  rw [HF.out]
  exact ⟨by omega, nx, by have := HNX.out; have := HN.out; omega, HS3.out⟩

set_option maxRecDepth 100000 in
set_option maxHeartbeats 16000000 in
theorem clause_dname {P : Nat} {L : List TP} {N : Nat} {A : Option Addr} {c nx base G B : Nat} {ds : List DeclL} {rs : List RuleL} {Ad Ar : Option Addr} {cd cr : Nat} (w : World) (hnx : nx ≤ L.length) (hS : PS P L N nx 0 0 A c w) (hmax : ∀ p ∈ L, p.1.s.length ≤ 65536) (hga : GAt base G w ds rs Ad Ar cd cr)
    (hPb : P < base) (hGb : G < base) (hGP : G ≠ P) (hbase : base ≤ w.heap.size) (hBP : B ≤ P) (hBG : B ≤ G) (hds : ds.length ≤ 400) (hrs : rs.length ≤ 400) (k : Nat) (s : List UInt8) (n : Int) (q : Bool) (a : Nat) (hp : pk N (L.drop nx) 0 = (⟨k, s, n, q⟩, a)) (hv : isM N (L.drop nx) 1 [47] = true) (h4 : (((ds.length : Nat) : Int) == 400) = false) (a0 e0 : Nat) (ho : nameP N (L.drop nx) = .bad a0 e0) :
    Calls Tryz.prog 52 #[.pointer (some ⟨P, 0, none⟩), .pointer (some ⟨G, 0, none⟩)] w fun e w' => e = .returned (.tuple #[]) ∧ Below B w w' ∧ ∃ ds' rs' Ad' Ar' cd' cr', GAt base G w' ds' rs' Ad' Ar' cd' cr' ∧ PGot P L N A c 66000 (clauseM N ds rs (L.drop nx)) (fun y => y = (ds', rs')) w' := by
  have HP := Lib.hid hp
  have HLT := Lib.hid hS.lt
  have HN := Lib.hid hS.n
  have HNX := Lib.hid hnx
  have HMAX := Lib.hid hmax
  have HGA := Lib.hid hga
  have HPB := Lib.hid hPb
  have HGB := Lib.hid hGb
  have HGP := Lib.hid hGP
  have HBASE := Lib.hid hbase
  have HBP := Lib.hid hBP
  have HBG := Lib.hid hBG
  have HDS := Lib.hid hds
  have HRS := Lib.hid hrs
  have HS := Lib.hid (fun W (hb : Below w.heap.size w W) => hS.below hb)
  clear hS hnx hmax hga hPb hGb hGP hbase hBP hBG hds hrs
  obtain ⟨i0, hi, hz0, hz1, hz2⟩ := info_parts decl_info
  have HDV := Lib.hid hv
  have HO := Lib.hid ho
  have HF := Lib.hid (show clauseM N ds rs (L.drop nx) = .bad a0 e0 by
    unfold clauseM
    have h5 : (ds.length == 400) = false := by simp at h4 ⊢; omega
    rw [hv]
    simp only [h5, if_true, Bool.false_eq_true, if_false]
    unfold declP
    rw [ho]
    rfl)
  clear hv ho hp
  go_enter Tryz.func52, Tryz.ntmps52
  go_wp2_with (first
    | (go_at_call 85; ((with_reducible refine (declares_calls true _ (HS.out _ ((Below.refl _ _).alloc (Nat.le_refl _) _)) HDV.out).mono ?_); rintro e w1 ⟨rfl, hb1⟩; have HB1 := Lib.hid (below_then' ((Below.refl w.heap.size w).alloc (Nat.le_refl _) (.cells #[.pointer (some ⟨P, 0, none⟩)] 61)) hb1 (Nat.le_refl _)); have hbx1 := blk_keep (heap_alloc_new w (.cells #[.pointer (some ⟨P, 0, none⟩)] 61)) (grown_below hb1 none) (by simp); have pb1 := cell_of_row w1 w.heap.size 0 _ _ _ hbx1; have HBX1 := Lib.hid hbx1; clear hb1 hbx1))
    | (go_at_call 36; ((with_reducible refine (peek0_calls ⟨k, s, n, q⟩ a _ (HS.out _ HB1.out) HP.out).mono ?_); rintro e w2 ⟨rfl, hb2⟩; have hW2 := grown_trans (grown_below (below_then' HB1.out hb2 (Nat.le_refl _)) (some P)) (World.grownBy_alloc w2 (.cells #[.int .i64 (k : Int), .string (bs s), .int .i64 n, .bool q, .int .i64 (a : Int)] 71) (some P)); have hbx2 := blk_keep (blk_keep HBX1.out (grown_below hb2 none) (by simp)) (World.grownBy_alloc w2 (.cells #[.int .i64 (k : Int), .string (bs s), .int .i64 n, .bool q, .int .i64 (a : Int)] 71) none) (by simp); have pb2 := cell_of_row (w2.alloc (.cells #[.int .i64 (k : Int), .string (bs s), .int .i64 n, .bool q, .int .i64 (a : Int)] 71)) w.heap.size 0 _ _ _ hbx2; have HBX2 := Lib.hid hbx2; have hga2 := HGA.out.kept hW2 HPB.out HGP.out; have g0 := cell_of_row (w2.alloc (.cells #[.int .i64 (k : Int), .string (bs s), .int .i64 n, .bool q, .int .i64 (a : Int)] 71)) G 0 _ _ _ hga2.b; have g1 := cell_of_row (w2.alloc (.cells #[.int .i64 (k : Int), .string (bs s), .int .i64 n, .bool q, .int .i64 (a : Int)] 71)) G 1 _ _ _ hga2.b; have HS2 := Lib.hid (HS.out _ (below_then' (below_then' HB1.out hb2 (Nat.le_refl _)) ((Below.refl w2.heap.size w2).alloc (Nat.le_refl _) (.cells #[.int .i64 (k : Int), .string (bs s), .int .i64 n, .bool q, .int .i64 (a : Int)] 71)) (Nat.le_refl _))); have HW2 := Lib.hid hW2; clear hb2 hW2 hbx2 hga2 pb1))
    | (go_at_call 59; ((with_reducible refine (name_calls _ (po_mk HNX.out HS2.out) HMAX.out).mono ?_); rintro e w3 ⟨hg3, x, rfl, hgot⟩; rw [HO.out] at hgot; obtain ⟨he0, nx1, hnx1, hS1⟩ := hgot; have HLT3 := Lib.hid (show P < w3.heap.size from hS1.lt); have HS3 := Lib.hid (hS1.below ((Below.refl w3.heap.size w3).alloc (Nat.le_refl _) (.cells #[.string (bs x), .int .i64 0] 86))); have HEL3 := Lib.hid (heap_alloc_new w3 (.cells #[.string (bs x), .int .i64 0] 86)); have hbx := blk_keep (blk_keep HBX2.out hg3 (by have := HLT.out; simp; omega)) (World.grownBy_alloc w3 (.cells #[.string (bs x), .int .i64 0] 86) none) (by simp); have pb3 := cell_of_row (w3.alloc (.cells #[.string (bs x), .int .i64 0] 86)) w.heap.size 0 _ _ _ hbx; have HBX3 := Lib.hid hbx; have HW3 := Lib.hid (grown_trans HW2.out (grown_trans hg3 (World.grownBy_alloc w3 (.cells #[.string (bs x), .int .i64 0] 86) _))); have HV3 := Lib.hid (World.grownBy_alloc w3 (.cells #[.string (bs x), .int .i64 0] 86) (some P)); have HE0 := Lib.hid he0; have HNX1 := Lib.hid hnx1; clear he0 hnx1 hg3 hS1 hbx g0 g1; refine RowKit.Hid.out ?_)))
  refine Lib.hid ?_
  obtain ⟨⟨⟨k2, s2, n2, q2⟩, a2⟩, hp2⟩ : ∃ p, pk N (L.drop nx1) 0 = p := ⟨_, rfl⟩
  have HP2 := Lib.hid hp2
  have HX2 := Lib.hid (show nx1 + 1 ≤ 1000000 by have := HNX1.out; omega)
  have HBB := Lib.hid (show ((e0 : Int) == 0) = false by have := HE0.out; simp; omega)
  clear hp2
  go_wp2_with (first
    | (go_at_call 61; ((with_reducible refine (takeA_calls _ k2 s2 n2 q2 a2 _ HS3.out HX2.out HP2.out rfl).mono ?_); rintro e w4 ⟨rfl, hs4, hg4⟩; have HS4 := Lib.hid hs4; have hbx := blk_keep HBX3.out hg4 (by have := HLT.out; simp; omega); have pb4 := cell_of_row w4 w.heap.size 0 _ _ _ hbx; have HBX4 := Lib.hid hbx; have HEL4 := Lib.hid (blk_keep HEL3.out hg4 (by have := HLT3.out; simp; omega)); have HW4 := Lib.hid (grown_trans HW3.out hg4); have HV4 := Lib.hid (grown_trans HV3.out hg4); clear hbx; clear hs4 hg4))
    | (go_at_call 33; ((with_reducible refine (pok_calls false _ HS4.out HBB.out).mono ?_); rintro e w' ⟨rfl, rfl⟩))
    | (go_at_call 65; ((with_reducible refine (mark_bad_calls ⟨#[46]⟩ _ (pb_mk (m := 65538) HE0.out (by have := HNX1.out; omega) HS4.out) ?_).mono ?_); (focus (first | omega | exact Nat.le_refl _)); rintro e w6 ⟨rfl, hg6, hgot6⟩; have hbx := blk_keep HBX4.out hg6 (by have := HLT.out; simp; omega); have pb6 := cell_of_row w6 w.heap.size 0 _ _ _ hbx; have HBX6 := Lib.hid hbx; have HEL6 := Lib.hid (blk_keep HEL4.out hg6 (by have := HLT3.out; simp; omega)); have HW6 := Lib.hid (grown_trans HW4.out hg6); have HV6 := Lib.hid (grown_trans HV4.out hg6); clear hbx; have hga6 := HGA.out.kept HW6.out HPB.out HGP.out; have g0 := cell_of_row w6 G 0 _ _ _ hga6.b; have g1 := cell_of_row w6 G 1 _ _ _ hga6.b; have g0a := fun o => cell_below ((Below.refl w6.heap.size w6).alloc (Nat.le_refl _) o) g0; have g1a := fun o => cell_below ((Below.refl w6.heap.size w6).alloc (Nat.le_refl _) o) g1; have e0 := cell_of_row w6 w3.heap.size 0 _ _ _ HEL6.out; have e1 := cell_of_row w6 w3.heap.size 1 _ _ _ HEL6.out; have HGA6 := Lib.hid hga6; have HGOT6 := Lib.hid hgot6; clear hg6 hgot6 hga6)))
  go_region_law (first
    | (refine step_append_lies _ rfl (.tmp 57) (.tmp 59) 33 rfl base 86 i0 (.agg #[.string ⟨#[]⟩, .int .i64 0]) 2 24 Tryz.underlying33 hi hz0 hz1 hz2 ?_ ?_ (.slice Ad ds.length cd) ds.length (ds.flatMap declC) ?_ ?_ ⟨w6.heap.size, 0, none⟩ 1 1 [.string (bs x), .int .i64 0] ?_ ?_ ?_ ?_ ?_ ?_ ?_ ?_ _ rfl ?_; rfl; decide; rfl; exact HGA6.out.d.alloc _; rfl; rfl; exact o_cells #[.string (bs x), .int .i64 0] 86; (intro u hu; simp at hu; rcases hu with rfl | rfl <;> rfl); decide; (have := HDS.out; unfold maxLen; omega); (have := HDS.out; omega); (have := HBASE.out; have := HW6.out.size; simp; omega); intro g cap W7 hown hgrow hat hlt; have hgW : w6.grownBy W7 (Value.ownBlock (.slice Ad ds.length cd)) := grown_trans (World.grownBy_alloc w6 (.cells #[.string (bs x), .int .i64 0] 86) _) (un_drew hgrow); have hg7 := blk_keep HGA6.out.b hgW (o_ne HGA6.out.d HGA6.out.b (by decide)); have hs7 := cell_of_row W7 G 0 _ _ _ hg7; have hf7 := frozen_of_row W7 G 0 _ _ hg7; have HG7 := Lib.hid hg7; have HOWN := Lib.hid hown; have HGW := Lib.hid hgW; clear hown hgrow hat hlt hgW hg7))
  all_goals
    go_wp2_with fail
    have hgS := grown_set (World.grownBy.refl W7 (some G)) 0 (.slice (some ⟨g, 0, none⟩) (ds.length + 1) cap)
    have hown := HOWN.out
    refine bodyPost_ret (results_none rfl _ _ _) rfl ?_
    refine ⟨rfl, ((below_ofP HW6.out HBP.out (Nat.le_trans HBP.out (Nat.le_of_lt HLT.out))).grown HGW.out (Nat.le_trans HBP.out (Nat.le_trans (Nat.le_of_lt HLT.out) HW6.out.size)) (fun j hj => by have := o_from HGA6.out.d j hj; have := HBP.out; have := HPB.out; omega)).setCell HBG.out _, ds ++ [⟨x, 0⟩], rs, some ⟨g, 0, none⟩, Ar, cap, cr, ⟨?_, ?_, ?_⟩, ?_⟩
    · rw [List.length_append, List.length_singleton]
      exact set_at HG7.out _ rfl
    · unfold DeclsAt
      rw [List.length_append, List.length_singleton, List.flatMap_append]
      exact o_keptR hown hgS (fun j hj => by cases hj; exact .inl HGB.out)
    · exact (HGA6.out.r.kept HGW.out (fun j hj => by obtain ⟨C, t, m, hc, ht⟩ := o_block HGA6.out.d j hj; exact .inr ⟨C, t, m, hc, by rw [ht]; decide⟩)).kept hgS (fun j hj => by cases hj; exact .inl HGB.out)
    · rw [HF.out]
      refine PGot.step (PGot.step ?_ HGW.out (fun j hj => ⟨by have := o_from HGA6.out.d j hj; have := HPB.out; omega, ?_⟩)) hgS (fun j hj => by cases hj; exact ⟨HGP.out, _, _, _, HG7.out, by decide⟩)
      · exact PB.mono HGOT6.out (by omega)
      · obtain ⟨C, t, m, hc, ht⟩ := o_block HGA6.out.d j hj
        exact ⟨C, t, m, hc, by rw [ht]; decide⟩

set_option maxRecDepth 100000 in
set_option maxHeartbeats 16000000 in
theorem clause_darity {P : Nat} {L : List TP} {N : Nat} {A : Option Addr} {c nx base G B : Nat} {ds : List DeclL} {rs : List RuleL} {Ad Ar : Option Addr} {cd cr : Nat} (w : World) (hnx : nx ≤ L.length) (hS : PS P L N nx 0 0 A c w) (hmax : ∀ p ∈ L, p.1.s.length ≤ 65536) (hga : GAt base G w ds rs Ad Ar cd cr)
    (hPb : P < base) (hGb : G < base) (hGP : G ≠ P) (hbase : base ≤ w.heap.size) (hBP : B ≤ P) (hBG : B ≤ G) (hds : ds.length ≤ 400) (hrs : rs.length ≤ 400) (k : Nat) (s : List UInt8) (n : Int) (q : Bool) (a : Nat) (hp : pk N (L.drop nx) 0 = (⟨k, s, n, q⟩, a)) (hv : isM N (L.drop nx) 1 [47] = true) (h4 : (((ds.length : Nat) : Int) == 400) = false) (p0 : List UInt8) (r1 : List TP) (ho : nameP N (L.drop nx) = .ok p0 r1) (a0 e0 : Nat) (hr : arityP N r1.tail = .bad a0 e0) :
    Calls Tryz.prog 52 #[.pointer (some ⟨P, 0, none⟩), .pointer (some ⟨G, 0, none⟩)] w fun e w' => e = .returned (.tuple #[]) ∧ Below B w w' ∧ ∃ ds' rs' Ad' Ar' cd' cr', GAt base G w' ds' rs' Ad' Ar' cd' cr' ∧ PGot P L N A c 66000 (clauseM N ds rs (L.drop nx)) (fun y => y = (ds', rs')) w' := by
  have HP := Lib.hid hp
  have HLT := Lib.hid hS.lt
  have HN := Lib.hid hS.n
  have HNX := Lib.hid hnx
  have HMAX := Lib.hid hmax
  have HGA := Lib.hid hga
  have HPB := Lib.hid hPb
  have HGB := Lib.hid hGb
  have HGP := Lib.hid hGP
  have HBASE := Lib.hid hbase
  have HBP := Lib.hid hBP
  have HBG := Lib.hid hBG
  have HDS := Lib.hid hds
  have HRS := Lib.hid hrs
  have HS := Lib.hid (fun W (hb : Below w.heap.size w W) => hS.below hb)
  clear hS hnx hmax hga hPb hGb hGP hbase hBP hBG hds hrs
  obtain ⟨i0, hi, hz0, hz1, hz2⟩ := info_parts decl_info
  have HDV := Lib.hid hv
  have HO := Lib.hid ho
  have HAR := Lib.hid hr
  obtain ⟨⟨⟨k2, s2, n2, q2⟩, a2⟩, hpp⟩ : ∃ p, pk N r1 0 = p := ⟨_, rfl⟩
  have HPP := Lib.hid hpp
  have HIN := Lib.hid (slash_in hv)
  have HTL := Lib.hid (name_tail ho)
  have HF := Lib.hid (show clauseM N ds rs (L.drop nx) = .bad a0 e0 by
    unfold clauseM
    have h5 : (ds.length == 400) = false := by simp at h4 ⊢; omega
    rw [hv]
    simp only [h5, if_true, Bool.false_eq_true, if_false]
    unfold declP
    rw [ho]
    simp only [hr]
    rfl)
  clear hv ho hp hr hpp
  go_enter Tryz.func52, Tryz.ntmps52
  go_wp2_with (first
    | (go_at_call 85; ((with_reducible refine (declares_calls true _ (HS.out _ ((Below.refl _ _).alloc (Nat.le_refl _) _)) HDV.out).mono ?_); rintro e w1 ⟨rfl, hb1⟩; have HB1 := Lib.hid (below_then' ((Below.refl w.heap.size w).alloc (Nat.le_refl _) (.cells #[.pointer (some ⟨P, 0, none⟩)] 61)) hb1 (Nat.le_refl _)); have hbx1 := blk_keep (heap_alloc_new w (.cells #[.pointer (some ⟨P, 0, none⟩)] 61)) (grown_below hb1 none) (by simp); have pb1 := cell_of_row w1 w.heap.size 0 _ _ _ hbx1; have HBX1 := Lib.hid hbx1; clear hb1 hbx1))
    | (go_at_call 36; ((with_reducible refine (peek0_calls ⟨k, s, n, q⟩ a _ (HS.out _ HB1.out) HP.out).mono ?_); rintro e w2 ⟨rfl, hb2⟩; have hW2 := grown_trans (grown_below (below_then' HB1.out hb2 (Nat.le_refl _)) (some P)) (World.grownBy_alloc w2 (.cells #[.int .i64 (k : Int), .string (bs s), .int .i64 n, .bool q, .int .i64 (a : Int)] 71) (some P)); have hbx2 := blk_keep (blk_keep HBX1.out (grown_below hb2 none) (by simp)) (World.grownBy_alloc w2 (.cells #[.int .i64 (k : Int), .string (bs s), .int .i64 n, .bool q, .int .i64 (a : Int)] 71) none) (by simp); have pb2 := cell_of_row (w2.alloc (.cells #[.int .i64 (k : Int), .string (bs s), .int .i64 n, .bool q, .int .i64 (a : Int)] 71)) w.heap.size 0 _ _ _ hbx2; have HBX2 := Lib.hid hbx2; have hga2 := HGA.out.kept hW2 HPB.out HGP.out; have g0 := cell_of_row (w2.alloc (.cells #[.int .i64 (k : Int), .string (bs s), .int .i64 n, .bool q, .int .i64 (a : Int)] 71)) G 0 _ _ _ hga2.b; have g1 := cell_of_row (w2.alloc (.cells #[.int .i64 (k : Int), .string (bs s), .int .i64 n, .bool q, .int .i64 (a : Int)] 71)) G 1 _ _ _ hga2.b; have HS2 := Lib.hid (HS.out _ (below_then' (below_then' HB1.out hb2 (Nat.le_refl _)) ((Below.refl w2.heap.size w2).alloc (Nat.le_refl _) (.cells #[.int .i64 (k : Int), .string (bs s), .int .i64 n, .bool q, .int .i64 (a : Int)] 71)) (Nat.le_refl _))); have HW2 := Lib.hid hW2; clear hb2 hW2 hbx2 hga2 pb1))
    | (go_at_call 59; ((with_reducible refine (name_calls _ (po_mk HNX.out HS2.out) HMAX.out).mono ?_); rintro e w3 ⟨hg3, x, rfl, hgot⟩; rw [HO.out] at hgot; obtain ⟨hxx, nx1, hnx1, hr1, hS1⟩ := hgot; have HLT3 := Lib.hid (show P < w3.heap.size from hS1.lt); have HS3 := Lib.hid (hS1.below ((Below.refl w3.heap.size w3).alloc (Nat.le_refl _) (.cells #[.string (bs x), .int .i64 0] 86))); have HEL3 := Lib.hid (heap_alloc_new w3 (.cells #[.string (bs x), .int .i64 0] 86)); have hbx := blk_keep (blk_keep HBX2.out hg3 (by have := HLT.out; simp; omega)) (World.grownBy_alloc w3 (.cells #[.string (bs x), .int .i64 0] 86) none) (by simp); have pb3 := cell_of_row (w3.alloc (.cells #[.string (bs x), .int .i64 0] 86)) w.heap.size 0 _ _ _ hbx; have HBX3 := Lib.hid hbx; have HW3 := Lib.hid (grown_trans HW2.out (grown_trans hg3 (World.grownBy_alloc w3 (.cells #[.string (bs x), .int .i64 0] 86) _))); have HV3 := Lib.hid (World.grownBy_alloc w3 (.cells #[.string (bs x), .int .i64 0] 86) (some P)); have HXX := Lib.hid hxx; have HR1 := Lib.hid hr1; have HPP2 := Lib.hid (show pk N (L.drop nx1) 0 = (⟨k2, s2, n2, q2⟩, a2) by rw [hr1]; exact HPP.out); have HP2 := Lib.hid HPP2.out; have HX2 := Lib.hid (show nx1 + 1 ≤ 1000000 by have := HN.out; omega); have HIN1 := Lib.hid (show nx1 + 1 ≤ L.length by have h1 := congrArg List.length (hr1.trans HTL.out); have h2 := HIN.out; simp at h1; omega); have HR2 := Lib.hid (show L.drop (nx1 + 1) = r1.tail by rw [← hr1, List.tail_drop]); clear hxx hnx1 hr1; have HSZ3 := Lib.hid hg3.size; clear hg3 hS1 hbx g0 g1))
    | (go_at_call 61; ((with_reducible refine (takeA_calls _ k2 s2 n2 q2 a2 _ HS3.out HX2.out HP2.out rfl).mono ?_); rintro e w4 ⟨rfl, hs4, hg4⟩; have HS4 := Lib.hid hs4; have hbx := blk_keep HBX3.out hg4 (by have := HLT.out; simp; omega); have pb4 := cell_of_row w4 w.heap.size 0 _ _ _ hbx; have HBX4 := Lib.hid hbx; have HEL4 := Lib.hid (blk_keep HEL3.out hg4 (by have := HLT3.out; simp; omega)); have HW4 := Lib.hid (grown_trans HW3.out hg4); have HV4 := Lib.hid (grown_trans HV3.out hg4); clear hbx; clear hs4 hg4))
    | (go_at_call 33; ((with_reducible refine (pok_calls true _ HS4.out rfl).mono ?_); rintro e w' ⟨rfl, rfl⟩))
    | (go_at_call 86; ((with_reducible refine (arity_calls (r := L.drop (nx1 + 1)) _ (po_mk HIN1.out HS4.out)).mono ?_); rintro e w5 ⟨hg5, n5, rfl, hgot5⟩; rw [HR2.out, HAR.out] at hgot5; have hbx := blk_keep HBX4.out hg5 (by have := HLT.out; simp; omega); have pb5 := cell_of_row w5 w.heap.size 0 _ _ _ hbx; have HBX5 := Lib.hid hbx; have HEL5 := Lib.hid (blk_keep HEL4.out hg5 (by have := HLT3.out; simp; omega)); have HW5 := Lib.hid (grown_trans HW4.out hg5); have HV5 := Lib.hid (grown_trans HV4.out hg5); clear hbx; have p1 := cell_of_row w5 w3.heap.size 1 _ _ _ HEL5.out; have f1 := frozen_of_row w5 w3.heap.size 1 _ _ HEL5.out; have HELS := Lib.hid (set_at (i := 1) (cs' := #[.string (bs x), .int .i64 n5]) HEL5.out (.int .i64 n5) rfl); have hS5 := grown_set (World.grownBy.refl w5 (some w3.heap.size)) 1 (.int .i64 n5); have hbx := blk_keep HBX5.out hS5 (by have := (Array.getElem?_eq_some_iff.1 HBX2.out).1; have := HSZ3.out; simp; omega); have pbS := cell_of_row (w5.setCell ⟨w3.heap.size, 1, none⟩ (.int .i64 n5)) w.heap.size 0 _ _ _ hbx; have HBXS := Lib.hid hbx; have HVS := Lib.hid (grown_setNew (T := w3.heap.size) HV5.out (Nat.le_refl _) 1 (.int .i64 n5)); have HWS := Lib.hid (grown_setNew (T := w3.heap.size) HW5.out (by have := HSZ3.out; have := (Array.getElem?_eq_some_iff.1 HBX2.out).1; omega) 1 (.int .i64 n5)); have HGOTS := Lib.hid (PGot.step hgot5 hS5 (fun j hj => by cases hj; exact ⟨by have := HLT3.out; omega, _, _, _, HEL5.out, by decide⟩)); clear hg5 hgot5 hbx hS5))
    | (go_at_call 65; ((with_reducible refine (mark_bad_calls ⟨#[46]⟩ _ HGOTS.out.isBad ?_).mono ?_); (focus (first | omega | exact Nat.le_refl _)); rintro e w6 ⟨rfl, hg6, hgot6⟩; have hbx := blk_keep HBXS.out hg6 (by have := HLT.out; simp; omega); have pb6 := cell_of_row w6 w.heap.size 0 _ _ _ hbx; have HBX6 := Lib.hid hbx; have HEL6 := Lib.hid (blk_keep HELS.out hg6 (by have := HLT3.out; simp; omega)); have HW6 := Lib.hid (grown_trans HWS.out hg6); have HV6 := Lib.hid (grown_trans HVS.out hg6); clear hbx; have hga6 := HGA.out.kept HW6.out HPB.out HGP.out; have g0 := cell_of_row w6 G 0 _ _ _ hga6.b; have g1 := cell_of_row w6 G 1 _ _ _ hga6.b; have g0a := fun o => cell_below ((Below.refl w6.heap.size w6).alloc (Nat.le_refl _) o) g0; have g1a := fun o => cell_below ((Below.refl w6.heap.size w6).alloc (Nat.le_refl _) o) g1; have e0 := cell_of_row w6 w3.heap.size 0 _ _ _ HEL6.out; have e1 := cell_of_row w6 w3.heap.size 1 _ _ _ HEL6.out; have HGA6 := Lib.hid hga6; have HGOT6 := Lib.hid hgot6; clear hg6 hgot6 hga6)))
  go_region_law (first
    | (refine step_append_lies _ rfl (.tmp 57) (.tmp 59) 33 rfl base 86 i0 (.agg #[.string ⟨#[]⟩, .int .i64 0]) 2 24 Tryz.underlying33 hi hz0 hz1 hz2 ?_ ?_ (.slice Ad ds.length cd) ds.length (ds.flatMap declC) ?_ ?_ ⟨w6.heap.size, 0, none⟩ 1 1 [.string (bs x), .int .i64 n5] ?_ ?_ ?_ ?_ ?_ ?_ ?_ ?_ _ rfl ?_; rfl; decide; rfl; exact HGA6.out.d.alloc _; rfl; rfl; exact o_cells #[.string (bs x), .int .i64 n5] 86; (intro u hu; simp at hu; rcases hu with rfl | rfl <;> rfl); decide; (have := HDS.out; unfold maxLen; omega); (have := HDS.out; omega); (have := HBASE.out; have := HW6.out.size; simp; omega); intro g cap W7 hown hgrow hat hlt; have hgW : w6.grownBy W7 (Value.ownBlock (.slice Ad ds.length cd)) := grown_trans (World.grownBy_alloc w6 (.cells #[.string (bs x), .int .i64 n5] 86) _) (un_drew hgrow); have hg7 := blk_keep HGA6.out.b hgW (o_ne HGA6.out.d HGA6.out.b (by decide)); have hs7 := cell_of_row W7 G 0 _ _ _ hg7; have hf7 := frozen_of_row W7 G 0 _ _ hg7; have HG7 := Lib.hid hg7; have HOWN := Lib.hid hown; have HGW := Lib.hid hgW; clear hown hgrow hat hlt hgW hg7))
  all_goals
    go_wp2_with fail
    have hgS := grown_set (World.grownBy.refl W7 (some G)) 0 (.slice (some ⟨g, 0, none⟩) (ds.length + 1) cap)
    have hown := HOWN.out
    refine bodyPost_ret (results_none rfl _ _ _) rfl ?_
    refine ⟨rfl, ((below_ofP HW6.out HBP.out (Nat.le_trans HBP.out (Nat.le_of_lt HLT.out))).grown HGW.out (Nat.le_trans HBP.out (Nat.le_trans (Nat.le_of_lt HLT.out) HW6.out.size)) (fun j hj => by have := o_from HGA6.out.d j hj; have := HBP.out; have := HPB.out; omega)).setCell HBG.out _, ds ++ [⟨x, n5⟩], rs, some ⟨g, 0, none⟩, Ar, cap, cr, ⟨?_, ?_, ?_⟩, ?_⟩
    · rw [List.length_append, List.length_singleton]
      exact set_at HG7.out _ rfl
    · unfold DeclsAt
      rw [List.length_append, List.length_singleton, List.flatMap_append]
      exact o_keptR hown hgS (fun j hj => by cases hj; exact .inl HGB.out)
    · exact (HGA6.out.r.kept HGW.out (fun j hj => by obtain ⟨C, t, m, hc, ht⟩ := o_block HGA6.out.d j hj; exact .inr ⟨C, t, m, hc, by rw [ht]; decide⟩)).kept hgS (fun j hj => by cases hj; exact .inl HGB.out)
    · rw [HF.out]
      refine PGot.step (PGot.step ?_ HGW.out (fun j hj => ⟨by have := o_from HGA6.out.d j hj; have := HPB.out; omega, ?_⟩)) hgS (fun j hj => by cases hj; exact ⟨HGP.out, _, _, _, HG7.out, by decide⟩)
      · exact PB.mono HGOT6.out (by omega)
      · obtain ⟨C, t, m, hc, ht⟩ := o_block HGA6.out.d j hj
        exact ⟨C, t, m, hc, by rw [ht]; decide⟩

set_option maxRecDepth 100000 in
set_option maxHeartbeats 16000000 in
theorem clause_ddecl {P : Nat} {L : List TP} {N : Nat} {A : Option Addr} {c nx base G B : Nat} {ds : List DeclL} {rs : List RuleL} {Ad Ar : Option Addr} {cd cr : Nat} (w : World) (hnx : nx ≤ L.length) (hS : PS P L N nx 0 0 A c w) (hmax : ∀ p ∈ L, p.1.s.length ≤ 65536) (hga : GAt base G w ds rs Ad Ar cd cr)
    (hPb : P < base) (hGb : G < base) (hGP : G ≠ P) (hbase : base ≤ w.heap.size) (hBP : B ≤ P) (hBG : B ≤ G) (hds : ds.length ≤ 400) (hrs : rs.length ≤ 400) (k : Nat) (s : List UInt8) (n : Int) (q : Bool) (a : Nat) (hp : pk N (L.drop nx) 0 = (⟨k, s, n, q⟩, a)) (hv : isM N (L.drop nx) 1 [47] = true) (h4 : (((ds.length : Nat) : Int) == 400) = false) (p0 : List UInt8) (r1 : List TP) (ho : nameP N (L.drop nx) = .ok p0 r1) (m0 : Int) (r2 : List TP) (hr : arityP N r1.tail = .ok m0 r2) :
    Calls Tryz.prog 52 #[.pointer (some ⟨P, 0, none⟩), .pointer (some ⟨G, 0, none⟩)] w fun e w' => e = .returned (.tuple #[]) ∧ Below B w w' ∧ ∃ ds' rs' Ad' Ar' cd' cr', GAt base G w' ds' rs' Ad' Ar' cd' cr' ∧ PGot P L N A c 66000 (clauseM N ds rs (L.drop nx)) (fun y => y = (ds', rs')) w' := by
  have HP := Lib.hid hp
  have HLT := Lib.hid hS.lt
  have HN := Lib.hid hS.n
  have HNX := Lib.hid hnx
  have HMAX := Lib.hid hmax
  have HGA := Lib.hid hga
  have HPB := Lib.hid hPb
  have HGB := Lib.hid hGb
  have HGP := Lib.hid hGP
  have HBASE := Lib.hid hbase
  have HBP := Lib.hid hBP
  have HBG := Lib.hid hBG
  have HDS := Lib.hid hds
  have HRS := Lib.hid hrs
  have HS := Lib.hid (fun W (hb : Below w.heap.size w W) => hS.below hb)
  clear hS hnx hmax hga hPb hGb hGP hbase hBP hBG hds hrs
  obtain ⟨i0, hi, hz0, hz1, hz2⟩ := info_parts decl_info
  have HDV := Lib.hid hv
  have HO := Lib.hid ho
  have HAR := Lib.hid hr
  obtain ⟨⟨⟨k2, s2, n2, q2⟩, a2⟩, hpp⟩ : ∃ p, pk N r1 0 = p := ⟨_, rfl⟩
  have HPP := Lib.hid hpp
  have HIN := Lib.hid (slash_in hv)
  have HTL := Lib.hid (name_tail ho)
  have HF := Lib.hid (show clauseM N ds rs (L.drop nx) = (markP N [46] (⟨p0, m0⟩ : DeclL) r2).map fun d => (ds ++ [d], rs) by
    unfold clauseM
    have h5 : (ds.length == 400) = false := by simp at h4 ⊢; omega
    rw [hv]
    simp only [h5, if_true, Bool.false_eq_true, if_false]
    unfold declP
    rw [ho]
    simp only [hr])
  clear hv ho hp hr hpp
  go_enter Tryz.func52, Tryz.ntmps52
  go_wp2_with (first
    | (go_at_call 85; ((with_reducible refine (declares_calls true _ (HS.out _ ((Below.refl _ _).alloc (Nat.le_refl _) _)) HDV.out).mono ?_); rintro e w1 ⟨rfl, hb1⟩; have HB1 := Lib.hid (below_then' ((Below.refl w.heap.size w).alloc (Nat.le_refl _) (.cells #[.pointer (some ⟨P, 0, none⟩)] 61)) hb1 (Nat.le_refl _)); have hbx1 := blk_keep (heap_alloc_new w (.cells #[.pointer (some ⟨P, 0, none⟩)] 61)) (grown_below hb1 none) (by simp); have pb1 := cell_of_row w1 w.heap.size 0 _ _ _ hbx1; have HBX1 := Lib.hid hbx1; clear hb1 hbx1))
    | (go_at_call 36; ((with_reducible refine (peek0_calls ⟨k, s, n, q⟩ a _ (HS.out _ HB1.out) HP.out).mono ?_); rintro e w2 ⟨rfl, hb2⟩; have hW2 := grown_trans (grown_below (below_then' HB1.out hb2 (Nat.le_refl _)) (some P)) (World.grownBy_alloc w2 (.cells #[.int .i64 (k : Int), .string (bs s), .int .i64 n, .bool q, .int .i64 (a : Int)] 71) (some P)); have hbx2 := blk_keep (blk_keep HBX1.out (grown_below hb2 none) (by simp)) (World.grownBy_alloc w2 (.cells #[.int .i64 (k : Int), .string (bs s), .int .i64 n, .bool q, .int .i64 (a : Int)] 71) none) (by simp); have pb2 := cell_of_row (w2.alloc (.cells #[.int .i64 (k : Int), .string (bs s), .int .i64 n, .bool q, .int .i64 (a : Int)] 71)) w.heap.size 0 _ _ _ hbx2; have HBX2 := Lib.hid hbx2; have hga2 := HGA.out.kept hW2 HPB.out HGP.out; have g0 := cell_of_row (w2.alloc (.cells #[.int .i64 (k : Int), .string (bs s), .int .i64 n, .bool q, .int .i64 (a : Int)] 71)) G 0 _ _ _ hga2.b; have g1 := cell_of_row (w2.alloc (.cells #[.int .i64 (k : Int), .string (bs s), .int .i64 n, .bool q, .int .i64 (a : Int)] 71)) G 1 _ _ _ hga2.b; have HS2 := Lib.hid (HS.out _ (below_then' (below_then' HB1.out hb2 (Nat.le_refl _)) ((Below.refl w2.heap.size w2).alloc (Nat.le_refl _) (.cells #[.int .i64 (k : Int), .string (bs s), .int .i64 n, .bool q, .int .i64 (a : Int)] 71)) (Nat.le_refl _))); have HW2 := Lib.hid hW2; clear hb2 hW2 hbx2 hga2 pb1))
    | (go_at_call 59; ((with_reducible refine (name_calls _ (po_mk HNX.out HS2.out) HMAX.out).mono ?_); rintro e w3 ⟨hg3, x, rfl, hgot⟩; rw [HO.out] at hgot; obtain ⟨hxx, nx1, hnx1, hr1, hS1⟩ := hgot; have HLT3 := Lib.hid (show P < w3.heap.size from hS1.lt); have HS3 := Lib.hid (hS1.below ((Below.refl w3.heap.size w3).alloc (Nat.le_refl _) (.cells #[.string (bs x), .int .i64 0] 86))); have HEL3 := Lib.hid (heap_alloc_new w3 (.cells #[.string (bs x), .int .i64 0] 86)); have hbx := blk_keep (blk_keep HBX2.out hg3 (by have := HLT.out; simp; omega)) (World.grownBy_alloc w3 (.cells #[.string (bs x), .int .i64 0] 86) none) (by simp); have pb3 := cell_of_row (w3.alloc (.cells #[.string (bs x), .int .i64 0] 86)) w.heap.size 0 _ _ _ hbx; have HBX3 := Lib.hid hbx; have HW3 := Lib.hid (grown_trans HW2.out (grown_trans hg3 (World.grownBy_alloc w3 (.cells #[.string (bs x), .int .i64 0] 86) _))); have HV3 := Lib.hid (World.grownBy_alloc w3 (.cells #[.string (bs x), .int .i64 0] 86) (some P)); have HXX := Lib.hid hxx; have HR1 := Lib.hid hr1; have HPP2 := Lib.hid (show pk N (L.drop nx1) 0 = (⟨k2, s2, n2, q2⟩, a2) by rw [hr1]; exact HPP.out); have HP2 := Lib.hid HPP2.out; have HX2 := Lib.hid (show nx1 + 1 ≤ 1000000 by have := HN.out; omega); have HIN1 := Lib.hid (show nx1 + 1 ≤ L.length by have h1 := congrArg List.length (hr1.trans HTL.out); have h2 := HIN.out; simp at h1; omega); have HR2 := Lib.hid (show L.drop (nx1 + 1) = r1.tail by rw [← hr1, List.tail_drop]); clear hxx hnx1 hr1; have HSZ3 := Lib.hid hg3.size; clear hg3 hS1 hbx g0 g1))
    | (go_at_call 61; ((with_reducible refine (takeA_calls _ k2 s2 n2 q2 a2 _ HS3.out HX2.out HP2.out rfl).mono ?_); rintro e w4 ⟨rfl, hs4, hg4⟩; have HS4 := Lib.hid hs4; have hbx := blk_keep HBX3.out hg4 (by have := HLT.out; simp; omega); have pb4 := cell_of_row w4 w.heap.size 0 _ _ _ hbx; have HBX4 := Lib.hid hbx; have HEL4 := Lib.hid (blk_keep HEL3.out hg4 (by have := HLT3.out; simp; omega)); have HW4 := Lib.hid (grown_trans HW3.out hg4); have HV4 := Lib.hid (grown_trans HV3.out hg4); clear hbx; clear hs4 hg4))
    | (go_at_call 33; ((with_reducible refine (pok_calls true _ HS4.out rfl).mono ?_); rintro e w' ⟨rfl, rfl⟩))
    | (go_at_call 86; ((with_reducible refine (arity_calls (r := L.drop (nx1 + 1)) _ (po_mk HIN1.out HS4.out)).mono ?_); rintro e w5 ⟨hg5, n5, rfl, hgot5⟩; rw [HR2.out, HAR.out] at hgot5; have hbx := blk_keep HBX4.out hg5 (by have := HLT.out; simp; omega); have pb5 := cell_of_row w5 w.heap.size 0 _ _ _ hbx; have HBX5 := Lib.hid hbx; have HEL5 := Lib.hid (blk_keep HEL4.out hg5 (by have := HLT3.out; simp; omega)); have HW5 := Lib.hid (grown_trans HW4.out hg5); have HV5 := Lib.hid (grown_trans HV4.out hg5); clear hbx; have p1 := cell_of_row w5 w3.heap.size 1 _ _ _ HEL5.out; have f1 := frozen_of_row w5 w3.heap.size 1 _ _ HEL5.out; have HELS := Lib.hid (set_at (i := 1) (cs' := #[.string (bs x), .int .i64 n5]) HEL5.out (.int .i64 n5) rfl); have hS5 := grown_set (World.grownBy.refl w5 (some w3.heap.size)) 1 (.int .i64 n5); have hbx := blk_keep HBX5.out hS5 (by have := (Array.getElem?_eq_some_iff.1 HBX2.out).1; have := HSZ3.out; simp; omega); have pbS := cell_of_row (w5.setCell ⟨w3.heap.size, 1, none⟩ (.int .i64 n5)) w.heap.size 0 _ _ _ hbx; have HBXS := Lib.hid hbx; have HVS := Lib.hid (grown_setNew (T := w3.heap.size) HV5.out (Nat.le_refl _) 1 (.int .i64 n5)); have HWS := Lib.hid (grown_setNew (T := w3.heap.size) HW5.out (by have := HSZ3.out; have := (Array.getElem?_eq_some_iff.1 HBX2.out).1; omega) 1 (.int .i64 n5)); have HGOTS := Lib.hid (PGot.step hgot5 hS5 (fun j hj => by cases hj; exact ⟨by have := HLT3.out; omega, _, _, _, HEL5.out, by decide⟩)); clear hg5 hgot5 hbx hS5))
    | (go_at_call 65; ((with_reducible refine (mark_ok_calls ⟨#[46]⟩ _ HGOTS.out.isOk.2 ?_).mono ?_); (focus (first | omega | exact Nat.le_refl _)); rintro e w6 ⟨rfl, hg6, hgot6⟩; have hbx := blk_keep HBXS.out hg6 (by have := HLT.out; simp; omega); have pb6 := cell_of_row w6 w.heap.size 0 _ _ _ hbx; have HBX6 := Lib.hid hbx; have HEL6 := Lib.hid (blk_keep HELS.out hg6 (by have := HLT3.out; simp; omega)); have HW6 := Lib.hid (grown_trans HWS.out hg6); have HV6 := Lib.hid (grown_trans HVS.out hg6); clear hbx; have hga6 := HGA.out.kept HW6.out HPB.out HGP.out; have g0 := cell_of_row w6 G 0 _ _ _ hga6.b; have g1 := cell_of_row w6 G 1 _ _ _ hga6.b; have g0a := fun o => cell_below ((Below.refl w6.heap.size w6).alloc (Nat.le_refl _) o) g0; have g1a := fun o => cell_below ((Below.refl w6.heap.size w6).alloc (Nat.le_refl _) o) g1; have e0 := cell_of_row w6 w3.heap.size 0 _ _ _ HEL6.out; have e1 := cell_of_row w6 w3.heap.size 1 _ _ _ HEL6.out; have HGA6 := Lib.hid hga6; have HGOT6 := Lib.hid hgot6; clear hg6 hgot6 hga6)))
  go_region_law (first
    | (refine step_append_lies _ rfl (.tmp 57) (.tmp 59) 33 rfl base 86 i0 (.agg #[.string ⟨#[]⟩, .int .i64 0]) 2 24 Tryz.underlying33 hi hz0 hz1 hz2 ?_ ?_ (.slice Ad ds.length cd) ds.length (ds.flatMap declC) ?_ ?_ ⟨w6.heap.size, 0, none⟩ 1 1 [.string (bs x), .int .i64 n5] ?_ ?_ ?_ ?_ ?_ ?_ ?_ ?_ _ rfl ?_; rfl; decide; rfl; exact HGA6.out.d.alloc _; rfl; rfl; exact o_cells #[.string (bs x), .int .i64 n5] 86; (intro u hu; simp at hu; rcases hu with rfl | rfl <;> rfl); decide; (have := HDS.out; unfold maxLen; omega); (have := HDS.out; omega); (have := HBASE.out; have := HW6.out.size; simp; omega); intro g cap W7 hown hgrow hat hlt; have hgW : w6.grownBy W7 (Value.ownBlock (.slice Ad ds.length cd)) := grown_trans (World.grownBy_alloc w6 (.cells #[.string (bs x), .int .i64 n5] 86) _) (un_drew hgrow); have hg7 := blk_keep HGA6.out.b hgW (o_ne HGA6.out.d HGA6.out.b (by decide)); have hs7 := cell_of_row W7 G 0 _ _ _ hg7; have hf7 := frozen_of_row W7 G 0 _ _ hg7; have HG7 := Lib.hid hg7; have HOWN := Lib.hid hown; have HGW := Lib.hid hgW; clear hown hgrow hat hlt hgW hg7))
  all_goals
    go_wp2_with fail
    have hgS := grown_set (World.grownBy.refl W7 (some G)) 0 (.slice (some ⟨g, 0, none⟩) (ds.length + 1) cap)
    have hown := HOWN.out
    refine bodyPost_ret (results_none rfl _ _ _) rfl ?_
    refine ⟨rfl, ((below_ofP HW6.out HBP.out (Nat.le_trans HBP.out (Nat.le_of_lt HLT.out))).grown HGW.out (Nat.le_trans HBP.out (Nat.le_trans (Nat.le_of_lt HLT.out) HW6.out.size)) (fun j hj => by have := o_from HGA6.out.d j hj; have := HBP.out; have := HPB.out; omega)).setCell HBG.out _, ds ++ [⟨x, n5⟩], rs, some ⟨g, 0, none⟩, Ar, cap, cr, ⟨?_, ?_, ?_⟩, ?_⟩
    · rw [List.length_append, List.length_singleton]
      exact set_at HG7.out _ rfl
    · unfold DeclsAt
      rw [List.length_append, List.length_singleton, List.flatMap_append]
      exact o_keptR hown hgS (fun j hj => by cases hj; exact .inl HGB.out)
    · exact (HGA6.out.r.kept HGW.out (fun j hj => by obtain ⟨C, t, m, hc, ht⟩ := o_block HGA6.out.d j hj; exact .inr ⟨C, t, m, hc, by rw [ht]; decide⟩)).kept hgS (fun j hj => by cases hj; exact .inl HGB.out)
    · rw [HF.out]
      refine PGot.step (PGot.step ?_ HGW.out (fun j hj => ⟨by have := o_from HGA6.out.d j hj; have := HPB.out; omega, ?_⟩)) hgS (fun j hj => by cases hj; exact ⟨HGP.out, _, _, _, HG7.out, by decide⟩)
      · exact (mark_rel (⟨p0, m0⟩ : DeclL) HGOT6.out).map _ (by omega) (fun y hy => by rw [hy, HXX.out, HGOTS.out.isOk.1])
      · obtain ⟨C, t, m, hc, ht⟩ := o_block HGA6.out.d j hj
        exact ⟨C, t, m, hc, by rw [ht]; decide⟩

end Go.Proofs.YtminbdcabacfbaaGreatDoor.V

namespace Go.Proofs.YtminbdcabacfbaaGreatDoor.V
set_option linter.unusedVariables false
set_option linter.unusedSimpArgs false
open Go.RowKit

theorem LitsAt.base {B B' : Nat} {W : World} {l : List LitL} {v : Value} (h : LitsAt B W l v) (hB : B' ≤ B) : LitsAt B' W l v := by
  obtain ⟨ps, h1, h2, h3⟩ := h
  exact ⟨ps, h1, o_base h2 hB, fun p hp => (h3 p hp).base hB⟩

set_option maxRecDepth 100000 in
set_option maxHeartbeats 16000000 in
theorem clause_ratom {P : Nat} {L : List TP} {N : Nat} {A : Option Addr} {c nx base G B : Nat} {ds : List DeclL} {rs : List RuleL} {Ad Ar : Option Addr} {cd cr : Nat} (w : World) (hnx : nx ≤ L.length) (hS : PS P L N nx 0 0 A c w) (hmax : ∀ p ∈ L, p.1.s.length ≤ 65536) (hga : GAt base G w ds rs Ad Ar cd cr)
    (hPb : P < base) (hGb : G < base) (hGP : G ≠ P) (hbase : base ≤ w.heap.size) (hBP : B ≤ P) (hBG : B ≤ G) (hds : ds.length ≤ 400) (hrs : rs.length ≤ 400) (k : Nat) (s : List UInt8) (n : Int) (q : Bool) (a : Nat) (hp : pk N (L.drop nx) 0 = (⟨k, s, n, q⟩, a)) (hv : isM N (L.drop nx) 1 [47] = false) (h4 : (((rs.length : Nat) : Int) == 400) = false) (a0 e0 : Nat) (ho : atomP N (L.drop nx) = .bad a0 e0) :
    Calls Tryz.prog 52 #[.pointer (some ⟨P, 0, none⟩), .pointer (some ⟨G, 0, none⟩)] w fun e w' => e = .returned (.tuple #[]) ∧ Below B w w' ∧ ∃ ds' rs' Ad' Ar' cd' cr', GAt base G w' ds' rs' Ad' Ar' cd' cr' ∧ PGot P L N A c 66000 (clauseM N ds rs (L.drop nx)) (fun y => y = (ds', rs')) w' := by
  have HP := Lib.hid hp
  have HLT := Lib.hid hS.lt
  have HN := Lib.hid hS.n
  have HNX := Lib.hid hnx
  have HMAX := Lib.hid hmax
  have HGA := Lib.hid hga
  have HPB := Lib.hid hPb
  have HGB := Lib.hid hGb
  have HGP := Lib.hid hGP
  have HBASE := Lib.hid hbase
  have HBP := Lib.hid hBP
  have HBG := Lib.hid hBG
  have HDS := Lib.hid hds
  have HRS := Lib.hid hrs
  have HS := Lib.hid (fun W (hb : Below w.heap.size w W) => hS.below hb)
  clear hS hnx hmax hga hPb hGb hGP hbase hBP hBG hds hrs
  obtain ⟨i0, hi, hz0, hz1, hz2⟩ := info_parts rule_info
  have HDV := Lib.hid hv
  have HO := Lib.hid ho
  have HF := Lib.hid (show clauseM N ds rs (L.drop nx) = .bad a0 e0 by
    unfold clauseM
    have h5 : (rs.length == 400) = false := by simp at h4 ⊢; omega
    rw [hv]
    simp only [h5, Bool.false_eq_true, if_false]
    unfold ruleP
    rw [ho]
    rfl)
  clear hv ho hp
  go_enter Tryz.func52, Tryz.ntmps52
  go_wp2_with (first
    | (go_at_call 85; ((with_reducible refine (declares_calls false _ (HS.out _ ((Below.refl _ _).alloc (Nat.le_refl _) _)) HDV.out).mono ?_); rintro e w1 ⟨rfl, hb1⟩; have HB1 := Lib.hid (below_then' ((Below.refl w.heap.size w).alloc (Nat.le_refl _) (.cells #[.pointer (some ⟨P, 0, none⟩)] 61)) hb1 (Nat.le_refl _)); have hbx1 := blk_keep (heap_alloc_new w (.cells #[.pointer (some ⟨P, 0, none⟩)] 61)) (grown_below hb1 none) (by simp); have pb1 := cell_of_row w1 w.heap.size 0 _ _ _ hbx1; have HBX1 := Lib.hid hbx1; clear hb1 hbx1))
    | (go_at_call 36; ((with_reducible refine (peek0_calls ⟨k, s, n, q⟩ a _ (HS.out _ HB1.out) HP.out).mono ?_); rintro e w2 ⟨rfl, hb2⟩; have hW2 := grown_trans (grown_below (below_then' HB1.out hb2 (Nat.le_refl _)) (some P)) (World.grownBy_alloc w2 (.cells #[.int .i64 (k : Int), .string (bs s), .int .i64 n, .bool q, .int .i64 (a : Int)] 71) (some P)); have hbx2 := blk_keep (blk_keep HBX1.out (grown_below hb2 none) (by simp)) (World.grownBy_alloc w2 (.cells #[.int .i64 (k : Int), .string (bs s), .int .i64 n, .bool q, .int .i64 (a : Int)] 71) none) (by simp); have pb2 := cell_of_row (w2.alloc (.cells #[.int .i64 (k : Int), .string (bs s), .int .i64 n, .bool q, .int .i64 (a : Int)] 71)) w.heap.size 0 _ _ _ hbx2; have HBX2 := Lib.hid hbx2; have hga2 := HGA.out.kept hW2 HPB.out HGP.out; have g0 := cell_of_row (w2.alloc (.cells #[.int .i64 (k : Int), .string (bs s), .int .i64 n, .bool q, .int .i64 (a : Int)] 71)) G 0 _ _ _ hga2.b; have g1 := cell_of_row (w2.alloc (.cells #[.int .i64 (k : Int), .string (bs s), .int .i64 n, .bool q, .int .i64 (a : Int)] 71)) G 1 _ _ _ hga2.b; have HS2 := Lib.hid (HS.out _ (below_then' (below_then' HB1.out hb2 (Nat.le_refl _)) ((Below.refl w2.heap.size w2).alloc (Nat.le_refl _) (.cells #[.int .i64 (k : Int), .string (bs s), .int .i64 n, .bool q, .int .i64 (a : Int)] 71)) (Nat.le_refl _))); have HW2 := Lib.hid hW2; clear hb2 hW2 hbx2 hga2 pb1))
    | (go_at_call 34; ((with_reducible refine (atom_calls _ (po_mk HNX.out HS2.out) HMAX.out).mono ?_); rintro e w3 ⟨hg3, x, va, rfl, hta, hgot⟩; obtain ⟨Aa, ca, rfl⟩ := o_slice hta; rw [HO.out] at hgot; obtain ⟨he0, nx1, hnx1, hS1⟩ := hgot; have HLT3 := Lib.hid (show P < w3.heap.size from hS1.lt); have HS3 := Lib.hid (hS1.below ((Below.refl w3.heap.size w3).alloc (Nat.le_refl _) (.cells #[.string (bs x.p), .slice Aa x.a.length ca, .slice none 0 0] 50))); have HEL3 := Lib.hid (heap_alloc_new w3 (.cells #[.string (bs x.p), .slice Aa x.a.length ca, .slice none 0 0] 50)); have hbx := blk_keep (blk_keep HBX2.out hg3 (by have := HLT.out; simp; omega)) (World.grownBy_alloc w3 (.cells #[.string (bs x.p), .slice Aa x.a.length ca, .slice none 0 0] 50) none) (by simp); have pb3 := cell_of_row (w3.alloc (.cells #[.string (bs x.p), .slice Aa x.a.length ca, .slice none 0 0] 50)) w.heap.size 0 _ _ _ hbx; have HBX3 := Lib.hid hbx; have HWP := Lib.hid (grown_trans HW2.out hg3); have HW3 := Lib.hid (grown_trans HWP.out (World.grownBy_alloc w3 (.cells #[.string (bs x.p), .slice Aa x.a.length ca, .slice none 0 0] 50) _)); have HV3 := Lib.hid (World.grownBy_alloc w3 (.cells #[.string (bs x.p), .slice Aa x.a.length ca, .slice none 0 0] 50) (some P)); have HTA3 := Lib.hid (show TermsAt base w3 x.a (.slice Aa x.a.length ca) from TermsAt.base hta (Nat.le_trans HBASE.out HW2.out.size)); have HE0 := Lib.hid he0; have HNX1 := Lib.hid hnx1; have HBB := Lib.hid (show ((e0 : Int) == 0) = false by simp; omega); clear he0 hnx1; clear hg3 hS1 hbx hta g0 g1))
    | (go_at_call 33; ((with_reducible refine (pok_calls false _ HS3.out HBB.out).mono ?_); rintro e w' ⟨rfl, rfl⟩))
    | (go_at_call 65; ((with_reducible refine (mark_bad_calls ⟨#[46]⟩ _ (pb_mk (m := 65600) HE0.out HNX1.out HS3.out) ?_).mono ?_); (focus (first | omega | exact Nat.le_refl _)); rintro e w6 ⟨rfl, hg6, hgot6⟩; have hbx := blk_keep HBX3.out hg6 (by have := HLT.out; simp; omega); have pb6 := cell_of_row w6 w.heap.size 0 _ _ _ hbx; have HBX6 := Lib.hid hbx; have HEL6 := Lib.hid (blk_keep HEL3.out hg6 (by have := HLT3.out; simp; omega)); have HW6 := Lib.hid (grown_trans HW3.out hg6); have HV6 := Lib.hid (grown_trans HV3.out hg6); clear hbx; have hga6 := HGA.out.kept HW6.out HPB.out HGP.out; have g0 := cell_of_row w6 G 0 _ _ _ hga6.b; have g1 := cell_of_row w6 G 1 _ _ _ hga6.b; have g0a := fun o => cell_below ((Below.refl w6.heap.size w6).alloc (Nat.le_refl _) o) g0; have g1a := fun o => cell_below ((Below.refl w6.heap.size w6).alloc (Nat.le_refl _) o) g1; have e0 := cell_of_row w6 w3.heap.size 0 _ _ _ HEL6.out; have e1 := cell_of_row w6 w3.heap.size 1 _ _ _ HEL6.out; have e2 := cell_of_row w6 w3.heap.size 2 _ _ _ HEL6.out; have HGA6 := Lib.hid hga6; have HGOT6 := Lib.hid hgot6; clear hg6 hgot6 hga6)))
  obtain ⟨qs, hqs, hoq, hqq⟩ := HGA6.out.r
  have hql : qs.length = rs.length := by rw [← hqs]; simp
  rw [hql] at hoq
  have HOQ := Lib.hid hoq
  have HQQ := Lib.hid hqq
  have HQS := Lib.hid hqs
  clear hoq hqq hqs hql
  go_region_law (first
    | (refine step_append_lies _ rfl (.tmp 87) (.tmp 89) 34 rfl base 50 i0 (.agg #[.string ⟨#[]⟩, .slice none 0 0, .slice none 0 0]) 3 64 Tryz.underlying34 hi hz0 hz1 hz2 ?_ ?_ (.slice Ar rs.length cr) rs.length (qs.flatMap ruleC) ?_ ?_ ⟨w6.heap.size, 0, none⟩ 1 1 [.string (bs x.p), .slice Aa x.a.length ca, .slice none 0 0] ?_ ?_ ?_ ?_ ?_ ?_ ?_ ?_ _ rfl ?_; rfl; decide; rfl; exact HOQ.out.alloc _; rfl; rfl; exact o_cells #[.string (bs x.p), .slice Aa x.a.length ca, .slice none 0 0] 50; (intro u hu; simp at hu; rcases hu with rfl | rfl | rfl <;> rfl); decide; (have := HRS.out; unfold maxLen; omega); (have := HRS.out; omega); (have := HBASE.out; have := HW6.out.size; simp; omega); intro g cap W7 hown hgrow hat hlt; have hgW : w6.grownBy W7 (Value.ownBlock (.slice Ar rs.length cr)) := grown_trans (World.grownBy_alloc w6 (.cells #[.string (bs x.p), .slice Aa x.a.length ca, .slice none 0 0] 50) _) (un_drew hgrow); have hg7 := blk_keep HGA6.out.b hgW (o_ne HOQ.out HGA6.out.b (by decide)); have hs7 := cell_of_row W7 G 1 _ _ _ hg7; have hf7 := frozen_of_row W7 G 1 _ _ hg7; have HG7 := Lib.hid hg7; have HOWN := Lib.hid hown; have HGW := Lib.hid hgW; clear hown hgrow hat hlt hgW hg7))
  all_goals
    go_wp2_with fail
    have hgS := grown_set (World.grownBy.refl W7 (some G)) 1 (.slice (some ⟨g, 0, none⟩) (rs.length + 1) cap)
    have hown := HOWN.out
    have hta6 : TermsAt base w6 x.a (.slice Aa x.a.length ca) := HTA3.out.kept HV6.out (fun j hj => by cases hj; exact .inl HPB.out)
    have hli6 : LitsAt base w6 [] (.slice none 0 0) := ⟨[], rfl, World.ownsRow_nil _ _ _ _, fun p hp => by cases hp⟩
    have hrow : ∀ j, Value.ownBlock (.slice Ar rs.length cr) = some j → ∃ C t m, w6.heap[j]? = some (.cells C t m) ∧ t = 50 := o_block HOQ.out
    have hkt : ∀ l u, TermsAt base w6 l u → TermsAt base (W7.setCell ⟨G, 1, none⟩ (.slice (some ⟨g, 0, none⟩) (rs.length + 1) cap)) l u := fun l u h =>
      (h.kept HGW.out (fun j hj => by obtain ⟨C, t, m, hc, ht⟩ := hrow j hj; exact .inr ⟨C, t, m, hc, by rw [ht]; decide⟩)).kept hgS (fun j hj => by cases hj; exact .inl HGB.out)
    have hkl : ∀ l u, LitsAt base w6 l u → LitsAt base (W7.setCell ⟨G, 1, none⟩ (.slice (some ⟨g, 0, none⟩) (rs.length + 1) cap)) l u := fun l u h =>
      (h.kept HGW.out (fun j hj => by obtain ⟨C, t, m, hc, ht⟩ := hrow j hj; exact .inr ⟨C, t, m, hc, by rw [ht]; decide, by rw [ht]; decide⟩)).kept hgS (fun j hj => by cases hj; exact .inl HGB.out)
    first | go_end0 | refine bodyPost_ret (results_none rfl _ _ _) rfl ?_
    refine ⟨rfl, ((below_ofP HW6.out HBP.out (Nat.le_trans HBP.out (Nat.le_of_lt HLT.out))).grown HGW.out (Nat.le_trans HBP.out (Nat.le_trans (Nat.le_of_lt HLT.out) HW6.out.size)) (fun j hj => by have := o_from HOQ.out j hj; have := HBP.out; have := HPB.out; omega)).setCell HBG.out _, ds, rs ++ [⟨x, []⟩], Ad, some ⟨g, 0, none⟩, cd, cap, ⟨?_, ?_, ?_⟩, ?_⟩
    · rw [List.length_append, List.length_singleton]
      exact set_at HG7.out _ rfl
    · exact (HGA6.out.d.kept HGW.out (fun j hj => by obtain ⟨C, t, m, hc, ht⟩ := hrow j hj; exact .inr ⟨C, t, m, hc, by rw [ht]; decide⟩)).kept hgS (fun j hj => by cases hj; exact .inl HGB.out)
    · refine ⟨qs ++ [(⟨x, []⟩, Value.slice Aa x.a.length ca, .slice none 0 0)], by rw [List.map_append, HQS.out]; rfl, ?_, ?_⟩
      · have hl : (qs ++ [((⟨x, []⟩ : RuleL), Value.slice Aa x.a.length ca, (.slice none 0 0 : Value))]).length = rs.length + 1 := by rw [List.length_append, List.length_singleton, ← HQS.out, List.length_map]
        have hl2 : (rs ++ [(⟨x, []⟩ : RuleL)]).length = rs.length + 1 := by simp
        rw [hl, hl2, List.flatMap_append]
        exact o_keptR hown hgS (fun j hj => by cases hj; exact .inl HGB.out)
      · intro y hy
        rcases List.mem_append.1 hy with hy | hy
        · exact ⟨hkt _ _ (HQQ.out y hy).1, hkl _ _ (HQQ.out y hy).2⟩
        · rw [List.mem_singleton.1 hy]
          exact ⟨hkt _ _ hta6, hkl _ _ hli6⟩
    · rw [HF.out]
      refine PGot.step (PGot.step ?_ HGW.out (fun j hj => ⟨by have := o_from HOQ.out j hj; have := HPB.out; omega, ?_⟩)) hgS (fun j hj => by cases hj; exact ⟨HGP.out, _, _, _, HG7.out, by decide⟩)
      · exact PB.mono HGOT6.out (by omega)
      · obtain ⟨C, t, m, hc, ht⟩ := hrow j hj
        exact ⟨C, t, m, hc, by rw [ht]; decide⟩

set_option maxRecDepth 100000 in
set_option maxHeartbeats 16000000 in
theorem clause_rhead {P : Nat} {L : List TP} {N : Nat} {A : Option Addr} {c nx base G B : Nat} {ds : List DeclL} {rs : List RuleL} {Ad Ar : Option Addr} {cd cr : Nat} (w : World) (hnx : nx ≤ L.length) (hS : PS P L N nx 0 0 A c w) (hmax : ∀ p ∈ L, p.1.s.length ≤ 65536) (hga : GAt base G w ds rs Ad Ar cd cr)
    (hPb : P < base) (hGb : G < base) (hGP : G ≠ P) (hbase : base ≤ w.heap.size) (hBP : B ≤ P) (hBG : B ≤ G) (hds : ds.length ≤ 400) (hrs : rs.length ≤ 400) (k : Nat) (s : List UInt8) (n : Int) (q : Bool) (a : Nat) (hp : pk N (L.drop nx) 0 = (⟨k, s, n, q⟩, a)) (hv : isM N (L.drop nx) 1 [47] = false) (h4 : (((rs.length : Nat) : Int) == 400) = false) (h0 : AtomL) (r1 : List TP) (ho : atomP N (L.drop nx) = .ok h0 r1) (hi0 : isM N r1 0 [58, 45] = false) :
    Calls Tryz.prog 52 #[.pointer (some ⟨P, 0, none⟩), .pointer (some ⟨G, 0, none⟩)] w fun e w' => e = .returned (.tuple #[]) ∧ Below B w w' ∧ ∃ ds' rs' Ad' Ar' cd' cr', GAt base G w' ds' rs' Ad' Ar' cd' cr' ∧ PGot P L N A c 66000 (clauseM N ds rs (L.drop nx)) (fun y => y = (ds', rs')) w' := by
  have HP := Lib.hid hp
  have HLT := Lib.hid hS.lt
  have HN := Lib.hid hS.n
  have HNX := Lib.hid hnx
  have HMAX := Lib.hid hmax
  have HGA := Lib.hid hga
  have HPB := Lib.hid hPb
  have HGB := Lib.hid hGb
  have HGP := Lib.hid hGP
  have HBASE := Lib.hid hbase
  have HBP := Lib.hid hBP
  have HBG := Lib.hid hBG
  have HDS := Lib.hid hds
  have HRS := Lib.hid hrs
  have HS := Lib.hid (fun W (hb : Below w.heap.size w W) => hS.below hb)
  clear hS hnx hmax hga hPb hGb hGP hbase hBP hBG hds hrs
  obtain ⟨i0, hi, hz0, hz1, hz2⟩ := info_parts rule_info
  have HDV := Lib.hid hv
  have HO := Lib.hid ho
  have HV0 := Lib.hid hi0
  have HF := Lib.hid (show clauseM N ds rs (L.drop nx) = (markP N [46] (⟨h0, []⟩ : RuleL) r1).map fun c => (ds, rs ++ [c]) by
    unfold clauseM
    have h5 : (rs.length == 400) = false := by simp at h4 ⊢; omega
    rw [hv]
    simp only [h5, Bool.false_eq_true, if_false]
    unfold ruleP
    rw [ho]
    simp only [hi0, Bool.false_eq_true, if_false])
  clear hv ho hp hi0
  go_enter Tryz.func52, Tryz.ntmps52
  go_wp2_with (first
    | (go_at_call 85; ((with_reducible refine (declares_calls false _ (HS.out _ ((Below.refl _ _).alloc (Nat.le_refl _) _)) HDV.out).mono ?_); rintro e w1 ⟨rfl, hb1⟩; have HB1 := Lib.hid (below_then' ((Below.refl w.heap.size w).alloc (Nat.le_refl _) (.cells #[.pointer (some ⟨P, 0, none⟩)] 61)) hb1 (Nat.le_refl _)); have hbx1 := blk_keep (heap_alloc_new w (.cells #[.pointer (some ⟨P, 0, none⟩)] 61)) (grown_below hb1 none) (by simp); have pb1 := cell_of_row w1 w.heap.size 0 _ _ _ hbx1; have HBX1 := Lib.hid hbx1; clear hb1 hbx1))
    | (go_at_call 36; ((with_reducible refine (peek0_calls ⟨k, s, n, q⟩ a _ (HS.out _ HB1.out) HP.out).mono ?_); rintro e w2 ⟨rfl, hb2⟩; have hW2 := grown_trans (grown_below (below_then' HB1.out hb2 (Nat.le_refl _)) (some P)) (World.grownBy_alloc w2 (.cells #[.int .i64 (k : Int), .string (bs s), .int .i64 n, .bool q, .int .i64 (a : Int)] 71) (some P)); have hbx2 := blk_keep (blk_keep HBX1.out (grown_below hb2 none) (by simp)) (World.grownBy_alloc w2 (.cells #[.int .i64 (k : Int), .string (bs s), .int .i64 n, .bool q, .int .i64 (a : Int)] 71) none) (by simp); have pb2 := cell_of_row (w2.alloc (.cells #[.int .i64 (k : Int), .string (bs s), .int .i64 n, .bool q, .int .i64 (a : Int)] 71)) w.heap.size 0 _ _ _ hbx2; have HBX2 := Lib.hid hbx2; have hga2 := HGA.out.kept hW2 HPB.out HGP.out; have g0 := cell_of_row (w2.alloc (.cells #[.int .i64 (k : Int), .string (bs s), .int .i64 n, .bool q, .int .i64 (a : Int)] 71)) G 0 _ _ _ hga2.b; have g1 := cell_of_row (w2.alloc (.cells #[.int .i64 (k : Int), .string (bs s), .int .i64 n, .bool q, .int .i64 (a : Int)] 71)) G 1 _ _ _ hga2.b; have HS2 := Lib.hid (HS.out _ (below_then' (below_then' HB1.out hb2 (Nat.le_refl _)) ((Below.refl w2.heap.size w2).alloc (Nat.le_refl _) (.cells #[.int .i64 (k : Int), .string (bs s), .int .i64 n, .bool q, .int .i64 (a : Int)] 71)) (Nat.le_refl _))); have HW2 := Lib.hid hW2; clear hb2 hW2 hbx2 hga2 pb1))
    | (go_at_call 34; ((with_reducible refine (atom_calls _ (po_mk HNX.out HS2.out) HMAX.out).mono ?_); rintro e w3 ⟨hg3, x, va, rfl, hta, hgot⟩; obtain ⟨Aa, ca, rfl⟩ := o_slice hta; rw [HO.out] at hgot; obtain ⟨hxx, nx1, hnx1, hr1, hS1⟩ := hgot; have HLT3 := Lib.hid (show P < w3.heap.size from hS1.lt); have HS3 := Lib.hid (hS1.below ((Below.refl w3.heap.size w3).alloc (Nat.le_refl _) (.cells #[.string (bs x.p), .slice Aa x.a.length ca, .slice none 0 0] 50))); have HEL3 := Lib.hid (heap_alloc_new w3 (.cells #[.string (bs x.p), .slice Aa x.a.length ca, .slice none 0 0] 50)); have hbx := blk_keep (blk_keep HBX2.out hg3 (by have := HLT.out; simp; omega)) (World.grownBy_alloc w3 (.cells #[.string (bs x.p), .slice Aa x.a.length ca, .slice none 0 0] 50) none) (by simp); have pb3 := cell_of_row (w3.alloc (.cells #[.string (bs x.p), .slice Aa x.a.length ca, .slice none 0 0] 50)) w.heap.size 0 _ _ _ hbx; have HBX3 := Lib.hid hbx; have HWP := Lib.hid (grown_trans HW2.out hg3); have HW3 := Lib.hid (grown_trans HWP.out (World.grownBy_alloc w3 (.cells #[.string (bs x.p), .slice Aa x.a.length ca, .slice none 0 0] 50) _)); have HV3 := Lib.hid (World.grownBy_alloc w3 (.cells #[.string (bs x.p), .slice Aa x.a.length ca, .slice none 0 0] 50) (some P)); have HTA3 := Lib.hid (show TermsAt base w3 x.a (.slice Aa x.a.length ca) from TermsAt.base hta (Nat.le_trans HBASE.out HW2.out.size)); have HXX := Lib.hid hxx; have HNX1 := Lib.hid hnx1; have HR1 := Lib.hid hr1; have HVI := Lib.hid (show isM N (L.drop nx1) 0 (⟨#[58, 45]⟩ : ByteArray).data.toList = false by rw [hr1]; exact HV0.out); clear hxx hnx1 hr1; clear hg3 hS1 hbx hta g0 g1))
    | (go_at_call 33; ((with_reducible refine (pok_calls true _ HS3.out rfl).mono ?_); rintro e w' ⟨rfl, rfl⟩))
    | (go_at_call 60; ((with_reducible refine (is_calls ⟨#[58, 45]⟩ false _ HS3.out HVI.out).mono ?_); rintro e w4 ⟨rfl, hb4⟩; have HS4 := Lib.hid (HS3.out.below hb4); have hbx := blk_keep HBX3.out (grown_below hb4 none) (by simp); have pb4 := cell_of_row w4 w.heap.size 0 _ _ _ hbx; have HBX4 := Lib.hid hbx; have HEL4 := Lib.hid (blk_keep HEL3.out (grown_below hb4 none) (by simp)); have HW4 := Lib.hid (grown_trans HW3.out (grown_below hb4 (some P))); have HV4 := Lib.hid (grown_trans HV3.out (grown_below hb4 (some P))); clear hbx; clear hb4))
    | (go_at_call 65; ((with_reducible refine (mark_ok_calls ⟨#[46]⟩ _ (po_at HNX1.out HR1.out HS4.out) ?_).mono ?_); (focus (first | omega | exact Nat.le_refl _)); rintro e w6 ⟨rfl, hg6, hgot6⟩; have hbx := blk_keep HBX4.out hg6 (by have := HLT.out; simp; omega); have pb6 := cell_of_row w6 w.heap.size 0 _ _ _ hbx; have HBX6 := Lib.hid hbx; have HEL6 := Lib.hid (blk_keep HEL4.out hg6 (by have := HLT3.out; simp; omega)); have HW6 := Lib.hid (grown_trans HW4.out hg6); have HV6 := Lib.hid (grown_trans HV4.out hg6); clear hbx; have hga6 := HGA.out.kept HW6.out HPB.out HGP.out; have g0 := cell_of_row w6 G 0 _ _ _ hga6.b; have g1 := cell_of_row w6 G 1 _ _ _ hga6.b; have g0a := fun o => cell_below ((Below.refl w6.heap.size w6).alloc (Nat.le_refl _) o) g0; have g1a := fun o => cell_below ((Below.refl w6.heap.size w6).alloc (Nat.le_refl _) o) g1; have e0 := cell_of_row w6 w3.heap.size 0 _ _ _ HEL6.out; have e1 := cell_of_row w6 w3.heap.size 1 _ _ _ HEL6.out; have e2 := cell_of_row w6 w3.heap.size 2 _ _ _ HEL6.out; have HGA6 := Lib.hid hga6; have HGOT6 := Lib.hid hgot6; clear hg6 hgot6 hga6)))
  obtain ⟨qs, hqs, hoq, hqq⟩ := HGA6.out.r
  have hql : qs.length = rs.length := by rw [← hqs]; simp
  rw [hql] at hoq
  have HOQ := Lib.hid hoq
  have HQQ := Lib.hid hqq
  have HQS := Lib.hid hqs
  clear hoq hqq hqs hql
  go_region_law (first
    | (refine step_append_lies _ rfl (.tmp 87) (.tmp 89) 34 rfl base 50 i0 (.agg #[.string ⟨#[]⟩, .slice none 0 0, .slice none 0 0]) 3 64 Tryz.underlying34 hi hz0 hz1 hz2 ?_ ?_ (.slice Ar rs.length cr) rs.length (qs.flatMap ruleC) ?_ ?_ ⟨w6.heap.size, 0, none⟩ 1 1 [.string (bs x.p), .slice Aa x.a.length ca, .slice none 0 0] ?_ ?_ ?_ ?_ ?_ ?_ ?_ ?_ _ rfl ?_; rfl; decide; rfl; exact HOQ.out.alloc _; rfl; rfl; exact o_cells #[.string (bs x.p), .slice Aa x.a.length ca, .slice none 0 0] 50; (intro u hu; simp at hu; rcases hu with rfl | rfl | rfl <;> rfl); decide; (have := HRS.out; unfold maxLen; omega); (have := HRS.out; omega); (have := HBASE.out; have := HW6.out.size; simp; omega); intro g cap W7 hown hgrow hat hlt; have hgW : w6.grownBy W7 (Value.ownBlock (.slice Ar rs.length cr)) := grown_trans (World.grownBy_alloc w6 (.cells #[.string (bs x.p), .slice Aa x.a.length ca, .slice none 0 0] 50) _) (un_drew hgrow); have hg7 := blk_keep HGA6.out.b hgW (o_ne HOQ.out HGA6.out.b (by decide)); have hs7 := cell_of_row W7 G 1 _ _ _ hg7; have hf7 := frozen_of_row W7 G 1 _ _ hg7; have HG7 := Lib.hid hg7; have HOWN := Lib.hid hown; have HGW := Lib.hid hgW; clear hown hgrow hat hlt hgW hg7))
  all_goals
    go_wp2_with fail
    have hgS := grown_set (World.grownBy.refl W7 (some G)) 1 (.slice (some ⟨g, 0, none⟩) (rs.length + 1) cap)
    have hown := HOWN.out
    have hta6 : TermsAt base w6 x.a (.slice Aa x.a.length ca) := HTA3.out.kept HV6.out (fun j hj => by cases hj; exact .inl HPB.out)
    have hli6 : LitsAt base w6 [] (.slice none 0 0) := ⟨[], rfl, World.ownsRow_nil _ _ _ _, fun p hp => by cases hp⟩
    have hrow : ∀ j, Value.ownBlock (.slice Ar rs.length cr) = some j → ∃ C t m, w6.heap[j]? = some (.cells C t m) ∧ t = 50 := o_block HOQ.out
    have hkt : ∀ l u, TermsAt base w6 l u → TermsAt base (W7.setCell ⟨G, 1, none⟩ (.slice (some ⟨g, 0, none⟩) (rs.length + 1) cap)) l u := fun l u h =>
      (h.kept HGW.out (fun j hj => by obtain ⟨C, t, m, hc, ht⟩ := hrow j hj; exact .inr ⟨C, t, m, hc, by rw [ht]; decide⟩)).kept hgS (fun j hj => by cases hj; exact .inl HGB.out)
    have hkl : ∀ l u, LitsAt base w6 l u → LitsAt base (W7.setCell ⟨G, 1, none⟩ (.slice (some ⟨g, 0, none⟩) (rs.length + 1) cap)) l u := fun l u h =>
      (h.kept HGW.out (fun j hj => by obtain ⟨C, t, m, hc, ht⟩ := hrow j hj; exact .inr ⟨C, t, m, hc, by rw [ht]; decide, by rw [ht]; decide⟩)).kept hgS (fun j hj => by cases hj; exact .inl HGB.out)
    first | go_end0 | refine bodyPost_ret (results_none rfl _ _ _) rfl ?_
    refine ⟨rfl, ((below_ofP HW6.out HBP.out (Nat.le_trans HBP.out (Nat.le_of_lt HLT.out))).grown HGW.out (Nat.le_trans HBP.out (Nat.le_trans (Nat.le_of_lt HLT.out) HW6.out.size)) (fun j hj => by have := o_from HOQ.out j hj; have := HBP.out; have := HPB.out; omega)).setCell HBG.out _, ds, rs ++ [⟨x, []⟩], Ad, some ⟨g, 0, none⟩, cd, cap, ⟨?_, ?_, ?_⟩, ?_⟩
    · rw [List.length_append, List.length_singleton]
      exact set_at HG7.out _ rfl
    · exact (HGA6.out.d.kept HGW.out (fun j hj => by obtain ⟨C, t, m, hc, ht⟩ := hrow j hj; exact .inr ⟨C, t, m, hc, by rw [ht]; decide⟩)).kept hgS (fun j hj => by cases hj; exact .inl HGB.out)
    · refine ⟨qs ++ [(⟨x, []⟩, Value.slice Aa x.a.length ca, .slice none 0 0)], by rw [List.map_append, HQS.out]; rfl, ?_, ?_⟩
      · have hl : (qs ++ [((⟨x, []⟩ : RuleL), Value.slice Aa x.a.length ca, (.slice none 0 0 : Value))]).length = rs.length + 1 := by rw [List.length_append, List.length_singleton, ← HQS.out, List.length_map]
        have hl2 : (rs ++ [(⟨x, []⟩ : RuleL)]).length = rs.length + 1 := by simp
        rw [hl, hl2, List.flatMap_append]
        exact o_keptR hown hgS (fun j hj => by cases hj; exact .inl HGB.out)
      · intro y hy
        rcases List.mem_append.1 hy with hy | hy
        · exact ⟨hkt _ _ (HQQ.out y hy).1, hkl _ _ (HQQ.out y hy).2⟩
        · rw [List.mem_singleton.1 hy]
          exact ⟨hkt _ _ hta6, hkl _ _ hli6⟩
    · rw [HF.out]
      refine PGot.step (PGot.step ?_ HGW.out (fun j hj => ⟨by have := o_from HOQ.out j hj; have := HPB.out; omega, ?_⟩)) hgS (fun j hj => by cases hj; exact ⟨HGP.out, _, _, _, HG7.out, by decide⟩)
      · exact (mark_rel (⟨h0, []⟩ : RuleL) HGOT6.out).map _ (by omega) (fun y hy => by rw [hy, HXX.out])
      · obtain ⟨C, t, m, hc, ht⟩ := hrow j hj
        exact ⟨C, t, m, hc, by rw [ht]; decide⟩

end Go.Proofs.YtminbdcabacfbaaGreatDoor.V

namespace Go.Proofs.YtminbdcabacfbaaGreatDoor.V
set_option linter.unusedVariables false
set_option linter.unusedSimpArgs false
open Go.RowKit

set_option maxRecDepth 100000 in
set_option maxHeartbeats 16000000 in
theorem clause_rbody {P : Nat} {L : List TP} {N : Nat} {A : Option Addr} {c nx base G B : Nat} {ds : List DeclL} {rs : List RuleL} {Ad Ar : Option Addr} {cd cr : Nat} (w : World) (hnx : nx ≤ L.length) (hS : PS P L N nx 0 0 A c w) (hmax : ∀ p ∈ L, p.1.s.length ≤ 65536) (hga : GAt base G w ds rs Ad Ar cd cr)
    (hPb : P < base) (hGb : G < base) (hGP : G ≠ P) (hbase : base ≤ w.heap.size) (hBP : B ≤ P) (hBG : B ≤ G) (hds : ds.length ≤ 400) (hrs : rs.length ≤ 400) (k : Nat) (s : List UInt8) (n : Int) (q : Bool) (a : Nat) (hp : pk N (L.drop nx) 0 = (⟨k, s, n, q⟩, a)) (hv : isM N (L.drop nx) 1 [47] = false) (h4 : (((rs.length : Nat) : Int) == 400) = false) (h0 : AtomL) (r1 r2 : List TP) (ho : atomP N (L.drop nx) = .ok h0 r1) (hi0 : isM N r1 0 [58, 45] = true) (hr2 : r1.tail = r2) (a0 e0 : Nat) (hs : someP (litP N) N 8 r2 = .bad a0 e0) :
    Calls Tryz.prog 52 #[.pointer (some ⟨P, 0, none⟩), .pointer (some ⟨G, 0, none⟩)] w fun e w' => e = .returned (.tuple #[]) ∧ Below B w w' ∧ ∃ ds' rs' Ad' Ar' cd' cr', GAt base G w' ds' rs' Ad' Ar' cd' cr' ∧ PGot P L N A c 66000 (clauseM N ds rs (L.drop nx)) (fun y => y = (ds', rs')) w' := by
  have HP := Lib.hid hp
  have HLT := Lib.hid hS.lt
  have HN := Lib.hid hS.n
  have HNX := Lib.hid hnx
  have HMAX := Lib.hid hmax
  have HGA := Lib.hid hga
  have HPB := Lib.hid hPb
  have HGB := Lib.hid hGb
  have HGP := Lib.hid hGP
  have HBASE := Lib.hid hbase
  have HBP := Lib.hid hBP
  have HBG := Lib.hid hBG
  have HDS := Lib.hid hds
  have HRS := Lib.hid hrs
  have HS := Lib.hid (fun W (hb : Below w.heap.size w W) => hS.below hb)
  clear hS hnx hmax hga hPb hGb hGP hbase hBP hBG hds hrs
  obtain ⟨i0, hi, hz0, hz1, hz2⟩ := info_parts rule_info
  have HDV := Lib.hid hv
  have HO := Lib.hid ho
  have HV0 := Lib.hid hi0
  have HRT := Lib.hid hr2
  have HSO := Lib.hid hs
  obtain ⟨⟨⟨k2, s2, n2, q2⟩, a2⟩, hpp⟩ : ∃ p, pk N r1 0 = p := ⟨_, rfl⟩
  have HPP := Lib.hid hpp
  have HF := Lib.hid (show clauseM N ds rs (L.drop nx) = .bad a0 e0 by
    unfold clauseM
    have h5 : (rs.length == 400) = false := by simp at h4 ⊢; omega
    rw [hv]
    simp only [h5, Bool.false_eq_true, if_false]
    unfold ruleP
    rw [ho]
    simp only [hi0, if_true, hr2, hs]
    rfl)
  clear hv ho hp hi0 hr2 hs hpp
  go_enter Tryz.func52, Tryz.ntmps52
  go_wp2_with (first
    | (go_at_call 85; ((with_reducible refine (declares_calls false _ (HS.out _ ((Below.refl _ _).alloc (Nat.le_refl _) _)) HDV.out).mono ?_); rintro e w1 ⟨rfl, hb1⟩; have HB1 := Lib.hid (below_then' ((Below.refl w.heap.size w).alloc (Nat.le_refl _) (.cells #[.pointer (some ⟨P, 0, none⟩)] 61)) hb1 (Nat.le_refl _)); have hbx1 := blk_keep (heap_alloc_new w (.cells #[.pointer (some ⟨P, 0, none⟩)] 61)) (grown_below hb1 none) (by simp); have pb1 := cell_of_row w1 w.heap.size 0 _ _ _ hbx1; have HBX1 := Lib.hid hbx1; clear hb1 hbx1))
    | (go_at_call 36; ((with_reducible refine (peek0_calls ⟨k, s, n, q⟩ a _ (HS.out _ HB1.out) HP.out).mono ?_); rintro e w2 ⟨rfl, hb2⟩; have hW2 := grown_trans (grown_below (below_then' HB1.out hb2 (Nat.le_refl _)) (some P)) (World.grownBy_alloc w2 (.cells #[.int .i64 (k : Int), .string (bs s), .int .i64 n, .bool q, .int .i64 (a : Int)] 71) (some P)); have hbx2 := blk_keep (blk_keep HBX1.out (grown_below hb2 none) (by simp)) (World.grownBy_alloc w2 (.cells #[.int .i64 (k : Int), .string (bs s), .int .i64 n, .bool q, .int .i64 (a : Int)] 71) none) (by simp); have pb2 := cell_of_row (w2.alloc (.cells #[.int .i64 (k : Int), .string (bs s), .int .i64 n, .bool q, .int .i64 (a : Int)] 71)) w.heap.size 0 _ _ _ hbx2; have HBX2 := Lib.hid hbx2; have hga2 := HGA.out.kept hW2 HPB.out HGP.out; have g0 := cell_of_row (w2.alloc (.cells #[.int .i64 (k : Int), .string (bs s), .int .i64 n, .bool q, .int .i64 (a : Int)] 71)) G 0 _ _ _ hga2.b; have g1 := cell_of_row (w2.alloc (.cells #[.int .i64 (k : Int), .string (bs s), .int .i64 n, .bool q, .int .i64 (a : Int)] 71)) G 1 _ _ _ hga2.b; have HS2 := Lib.hid (HS.out _ (below_then' (below_then' HB1.out hb2 (Nat.le_refl _)) ((Below.refl w2.heap.size w2).alloc (Nat.le_refl _) (.cells #[.int .i64 (k : Int), .string (bs s), .int .i64 n, .bool q, .int .i64 (a : Int)] 71)) (Nat.le_refl _))); have HW2 := Lib.hid hW2; clear hb2 hW2 hbx2 hga2 pb1))
    | (go_at_call 34; ((with_reducible refine (atom_calls _ (po_mk HNX.out HS2.out) HMAX.out).mono ?_); rintro e w3 ⟨hg3, x, va, rfl, hta, hgot⟩; obtain ⟨Aa, ca, rfl⟩ := o_slice hta; rw [HO.out] at hgot; obtain ⟨hxx, nx1, hnx1, hr1, hS1⟩ := hgot; have HLT3 := Lib.hid (show P < w3.heap.size from hS1.lt); have HS3 := Lib.hid (hS1.below ((Below.refl w3.heap.size w3).alloc (Nat.le_refl _) (.cells #[.string (bs x.p), .slice Aa x.a.length ca, .slice none 0 0] 50))); have HEL3 := Lib.hid (heap_alloc_new w3 (.cells #[.string (bs x.p), .slice Aa x.a.length ca, .slice none 0 0] 50)); have hbx := blk_keep (blk_keep HBX2.out hg3 (by have := HLT.out; simp; omega)) (World.grownBy_alloc w3 (.cells #[.string (bs x.p), .slice Aa x.a.length ca, .slice none 0 0] 50) none) (by simp); have pb3 := cell_of_row (w3.alloc (.cells #[.string (bs x.p), .slice Aa x.a.length ca, .slice none 0 0] 50)) w.heap.size 0 _ _ _ hbx; have HBX3 := Lib.hid hbx; have HWP := Lib.hid (grown_trans HW2.out hg3); have HW3 := Lib.hid (grown_trans HWP.out (World.grownBy_alloc w3 (.cells #[.string (bs x.p), .slice Aa x.a.length ca, .slice none 0 0] 50) _)); have HV3 := Lib.hid (World.grownBy_alloc w3 (.cells #[.string (bs x.p), .slice Aa x.a.length ca, .slice none 0 0] 50) (some P)); have HTA3 := Lib.hid (show TermsAt base w3 x.a (.slice Aa x.a.length ca) from TermsAt.base hta (Nat.le_trans HBASE.out HW2.out.size)); have HXX := Lib.hid hxx; have HNX1 := Lib.hid hnx1; have HR1 := Lib.hid hr1; have HVI := Lib.hid (show isM N (L.drop nx1) 0 (⟨#[58, 45]⟩ : ByteArray).data.toList = true by rw [hr1]; exact HV0.out); have HIN1 := Lib.hid (comma_in HVI.out); have HX2 := Lib.hid (show nx1 + 1 ≤ 1000000 by have := HIN1.out; have := HN.out; omega); have HP2 := Lib.hid (show pk N (L.drop nx1) 0 = (⟨k2, s2, n2, q2⟩, a2) by rw [hr1]; exact HPP.out); have HR2 := Lib.hid (show L.drop (nx1 + 1) = r2 by rw [← HRT.out, ← hr1, List.tail_drop]); clear hxx hnx1 hr1; clear hg3 hS1 hbx hta g0 g1))
    | (go_at_call 33; ((with_reducible refine (pok_calls true _ HS3.out rfl).mono ?_); rintro e w' ⟨rfl, rfl⟩))
    | (go_at_call 60; ((with_reducible refine (is_calls ⟨#[58, 45]⟩ true _ HS3.out HVI.out).mono ?_); rintro e w4 ⟨rfl, hb4⟩; have HS4 := Lib.hid (HS3.out.below hb4); have hbx := blk_keep HBX3.out (grown_below hb4 none) (by simp); have pb4 := cell_of_row w4 w.heap.size 0 _ _ _ hbx; have HBX4 := Lib.hid hbx; have HEL4 := Lib.hid (blk_keep HEL3.out (grown_below hb4 none) (by simp)); have HW4 := Lib.hid (grown_trans HW3.out (grown_below hb4 (some P))); have HV4 := Lib.hid (grown_trans HV3.out (grown_below hb4 (some P))); clear hbx; clear hb4))
    | (go_at_call 61; ((with_reducible refine (takeA_calls _ k2 s2 n2 q2 a2 _ HS4.out HX2.out HP2.out rfl).mono ?_); rintro e w5 ⟨rfl, hs5, hg5⟩; have HS5 := Lib.hid hs5; have hbx := blk_keep HBX4.out hg5 (by have := HLT.out; simp; omega); have pb5 := cell_of_row w5 w.heap.size 0 _ _ _ hbx; have HBX5 := Lib.hid hbx; have HEL5 := Lib.hid (blk_keep HEL4.out hg5 (by have := HLT3.out; simp; omega)); have HW5 := Lib.hid (grown_trans HW4.out hg5); have HV5 := Lib.hid (grown_trans HV4.out hg5); clear hbx; clear hs5 hg5))
    | (go_at_call 62; refine RowKit.Hid.out ?_))
  refine Lib.hid ?_
  (with_reducible refine (someI_calls (L := L) (A := A) (c := c) 87 #[.pointer (some ⟨w3.heap.size, 0, none⟩), .pointer (some ⟨w.heap.size, 0, none⟩)] en_body (litP N) (BodyJ P w3.heap.size w.heap.size (bs x.p) (.slice Aa x.a.length ca) w3) (fun u u' acc hj hg => hj.step (Nat.le_refl _) (by have := HLT.out; omega) HLT3.out hg) 65700 (by omega) (by omega) (fun u acc r' hl hpo hj => body_calls w3 u acc HLT3.out (Nat.le_refl _) (by have := HLT.out; omega) hl HMAX.out hpo hj) 8 8 rfl (by omega) r2 _ ?_ ?_).mono ?_)
  (focus (exact ⟨nx1 + 1, HIN1.out, HR2.out, HS5.out⟩))
  (focus (exact ⟨HV5.out, ⟨_, HEL5.out, [], rfl, World.ownsRow_nil _ _ _ _, fun p hp => by cases hp⟩, HBX5.out⟩))
  rintro e w8 ⟨rfl, acc, hj8, hgot8⟩
  rw [HSO.out] at hgot8
  obtain ⟨vb8, hb8, hl8⟩ := hj8.a
  have hl8' := hl8
  obtain ⟨ps8, hps8, ho8, _⟩ := hl8'
  obtain ⟨Ab, cb, rfl⟩ := o_slice ho8
  have HLI8 := Lib.hid hl8
  have HEL8 := Lib.hid hb8
  have HBX8 := Lib.hid hj8.b
  have pb8 := cell_of_row w8 w.heap.size 0 _ _ _ hj8.b
  have HV8 := Lib.hid hj8.g
  have HW8 := Lib.hid (grown_trans HWP.out hj8.g)
  have HGOT8 := Lib.hid hgot8
  clear hb8 hl8 hj8 hgot8 ho8 hps8
  go_wp2_with (go_at_call 65; ((with_reducible refine (mark_bad_calls ⟨#[46]⟩ _ HGOT8.out.isBad ?_).mono ?_); (focus (first | omega | exact Nat.le_refl _)); rintro e w6 ⟨rfl, hg6, hgot6⟩; have hbx := blk_keep HBX8.out hg6 (by have := HLT.out; simp; omega); have pb6 := cell_of_row w6 w.heap.size 0 _ _ _ hbx; have HBX6 := Lib.hid hbx; have HEL6 := Lib.hid (blk_keep HEL8.out hg6 (by have := HLT3.out; simp; omega)); have HW6 := Lib.hid (grown_trans HW8.out hg6); have HV6 := Lib.hid (grown_trans HV8.out hg6); clear hbx; have HG86 := Lib.hid hg6; have hga6 := HGA.out.kept HW6.out HPB.out HGP.out; have g0 := cell_of_row w6 G 0 _ _ _ hga6.b; have g1 := cell_of_row w6 G 1 _ _ _ hga6.b; have g0a := fun o => cell_below ((Below.refl w6.heap.size w6).alloc (Nat.le_refl _) o) g0; have g1a := fun o => cell_below ((Below.refl w6.heap.size w6).alloc (Nat.le_refl _) o) g1; have e0 := cell_of_row w6 w3.heap.size 0 _ _ _ HEL6.out; have e1 := cell_of_row w6 w3.heap.size 1 _ _ _ HEL6.out; have e2 := cell_of_row w6 w3.heap.size 2 _ _ _ HEL6.out; have HGA6 := Lib.hid hga6; have HGOT6 := Lib.hid hgot6; clear hg6 hgot6 hga6))
  obtain ⟨qs, hqs, hoq, hqq⟩ := HGA6.out.r
  have hql : qs.length = rs.length := by rw [← hqs]; simp
  rw [hql] at hoq
  have HOQ := Lib.hid hoq
  have HQQ := Lib.hid hqq
  have HQS := Lib.hid hqs
  clear hoq hqq hqs hql
  go_region_law (first
    | (refine step_append_lies _ rfl (.tmp 87) (.tmp 89) 34 rfl base 50 i0 (.agg #[.string ⟨#[]⟩, .slice none 0 0, .slice none 0 0]) 3 64 Tryz.underlying34 hi hz0 hz1 hz2 ?_ ?_ (.slice Ar rs.length cr) rs.length (qs.flatMap ruleC) ?_ ?_ ⟨w6.heap.size, 0, none⟩ 1 1 [.string (bs x.p), .slice Aa x.a.length ca, .slice Ab ps8.length cb] ?_ ?_ ?_ ?_ ?_ ?_ ?_ ?_ _ rfl ?_; rfl; decide; rfl; exact HOQ.out.alloc _; rfl; rfl; exact o_cells #[.string (bs x.p), .slice Aa x.a.length ca, .slice Ab ps8.length cb] 50; (intro u hu; simp at hu; rcases hu with rfl | rfl | rfl <;> rfl); decide; (have := HRS.out; unfold maxLen; omega); (have := HRS.out; omega); (have := HBASE.out; have := HW6.out.size; simp; omega); intro g cap W7 hown hgrow hat hlt; have hgW : w6.grownBy W7 (Value.ownBlock (.slice Ar rs.length cr)) := grown_trans (World.grownBy_alloc w6 (.cells #[.string (bs x.p), .slice Aa x.a.length ca, .slice Ab ps8.length cb] 50) _) (un_drew hgrow); have hg7 := blk_keep HGA6.out.b hgW (o_ne HOQ.out HGA6.out.b (by decide)); have hs7 := cell_of_row W7 G 1 _ _ _ hg7; have hf7 := frozen_of_row W7 G 1 _ _ hg7; have HG7 := Lib.hid hg7; have HOWN := Lib.hid hown; have HGW := Lib.hid hgW; clear hown hgrow hat hlt hgW hg7))
  all_goals
    go_wp2_with fail
    have hgS := grown_set (World.grownBy.refl W7 (some G)) 1 (.slice (some ⟨g, 0, none⟩) (rs.length + 1) cap)
    have hown := HOWN.out
    have hta6 : TermsAt base w6 x.a (.slice Aa x.a.length ca) := HTA3.out.kept HV6.out (fun j hj => by cases hj; exact .inl HPB.out)
    have hli6 : LitsAt base w6 acc (.slice Ab ps8.length cb) := ((HLI8.out.kept (show w8.grownBy w6 (some P) from HG86.out) (fun j hj => by cases hj; exact .inl HLT3.out)).base (Nat.le_trans HBASE.out HWP.out.size))
    have hrow : ∀ j, Value.ownBlock (.slice Ar rs.length cr) = some j → ∃ C t m, w6.heap[j]? = some (.cells C t m) ∧ t = 50 := o_block HOQ.out
    have hkt : ∀ l u, TermsAt base w6 l u → TermsAt base (W7.setCell ⟨G, 1, none⟩ (.slice (some ⟨g, 0, none⟩) (rs.length + 1) cap)) l u := fun l u h =>
      (h.kept HGW.out (fun j hj => by obtain ⟨C, t, m, hc, ht⟩ := hrow j hj; exact .inr ⟨C, t, m, hc, by rw [ht]; decide⟩)).kept hgS (fun j hj => by cases hj; exact .inl HGB.out)
    have hkl : ∀ l u, LitsAt base w6 l u → LitsAt base (W7.setCell ⟨G, 1, none⟩ (.slice (some ⟨g, 0, none⟩) (rs.length + 1) cap)) l u := fun l u h =>
      (h.kept HGW.out (fun j hj => by obtain ⟨C, t, m, hc, ht⟩ := hrow j hj; exact .inr ⟨C, t, m, hc, by rw [ht]; decide, by rw [ht]; decide⟩)).kept hgS (fun j hj => by cases hj; exact .inl HGB.out)
    first | go_end0 | refine bodyPost_ret (results_none rfl _ _ _) rfl ?_
    refine ⟨rfl, ((below_ofP HW6.out HBP.out (Nat.le_trans HBP.out (Nat.le_of_lt HLT.out))).grown HGW.out (Nat.le_trans HBP.out (Nat.le_trans (Nat.le_of_lt HLT.out) HW6.out.size)) (fun j hj => by have := o_from HOQ.out j hj; have := HBP.out; have := HPB.out; omega)).setCell HBG.out _, ds, rs ++ [⟨x, acc⟩], Ad, some ⟨g, 0, none⟩, cd, cap, ⟨?_, ?_, ?_⟩, ?_⟩
    · rw [List.length_append, List.length_singleton]
      exact set_at HG7.out _ rfl
    · exact (HGA6.out.d.kept HGW.out (fun j hj => by obtain ⟨C, t, m, hc, ht⟩ := hrow j hj; exact .inr ⟨C, t, m, hc, by rw [ht]; decide⟩)).kept hgS (fun j hj => by cases hj; exact .inl HGB.out)
    · refine ⟨qs ++ [(⟨x, acc⟩, Value.slice Aa x.a.length ca, .slice Ab ps8.length cb)], by rw [List.map_append, HQS.out]; rfl, ?_, ?_⟩
      · have hl : (qs ++ [((⟨x, acc⟩ : RuleL), Value.slice Aa x.a.length ca, (.slice Ab ps8.length cb : Value))]).length = rs.length + 1 := by rw [List.length_append, List.length_singleton, ← HQS.out, List.length_map]
        have hl2 : (rs ++ [(⟨x, acc⟩ : RuleL)]).length = rs.length + 1 := by simp
        rw [hl, hl2, List.flatMap_append]
        exact o_keptR hown hgS (fun j hj => by cases hj; exact .inl HGB.out)
      · intro y hy
        rcases List.mem_append.1 hy with hy | hy
        · exact ⟨hkt _ _ (HQQ.out y hy).1, hkl _ _ (HQQ.out y hy).2⟩
        · rw [List.mem_singleton.1 hy]
          exact ⟨hkt _ _ hta6, hkl _ _ hli6⟩
    · rw [HF.out]
      refine PGot.step (PGot.step ?_ HGW.out (fun j hj => ⟨by have := o_from HOQ.out j hj; have := HPB.out; omega, ?_⟩)) hgS (fun j hj => by cases hj; exact ⟨HGP.out, _, _, _, HG7.out, by decide⟩)
      · exact PB.mono HGOT6.out (by omega)
      · obtain ⟨C, t, m, hc, ht⟩ := hrow j hj
        exact ⟨C, t, m, hc, by rw [ht]; decide⟩

set_option maxRecDepth 100000 in
set_option maxHeartbeats 16000000 in
theorem clause_rrule {P : Nat} {L : List TP} {N : Nat} {A : Option Addr} {c nx base G B : Nat} {ds : List DeclL} {rs : List RuleL} {Ad Ar : Option Addr} {cd cr : Nat} (w : World) (hnx : nx ≤ L.length) (hS : PS P L N nx 0 0 A c w) (hmax : ∀ p ∈ L, p.1.s.length ≤ 65536) (hga : GAt base G w ds rs Ad Ar cd cr)
    (hPb : P < base) (hGb : G < base) (hGP : G ≠ P) (hbase : base ≤ w.heap.size) (hBP : B ≤ P) (hBG : B ≤ G) (hds : ds.length ≤ 400) (hrs : rs.length ≤ 400) (k : Nat) (s : List UInt8) (n : Int) (q : Bool) (a : Nat) (hp : pk N (L.drop nx) 0 = (⟨k, s, n, q⟩, a)) (hv : isM N (L.drop nx) 1 [47] = false) (h4 : (((rs.length : Nat) : Int) == 400) = false) (h0 : AtomL) (r1 r2 : List TP) (ho : atomP N (L.drop nx) = .ok h0 r1) (hi0 : isM N r1 0 [58, 45] = true) (hr2 : r1.tail = r2) (b0 : List LitL) (r3 : List TP) (hs : someP (litP N) N 8 r2 = .ok b0 r3) :
    Calls Tryz.prog 52 #[.pointer (some ⟨P, 0, none⟩), .pointer (some ⟨G, 0, none⟩)] w fun e w' => e = .returned (.tuple #[]) ∧ Below B w w' ∧ ∃ ds' rs' Ad' Ar' cd' cr', GAt base G w' ds' rs' Ad' Ar' cd' cr' ∧ PGot P L N A c 66000 (clauseM N ds rs (L.drop nx)) (fun y => y = (ds', rs')) w' := by
  have HP := Lib.hid hp
  have HLT := Lib.hid hS.lt
  have HN := Lib.hid hS.n
  have HNX := Lib.hid hnx
  have HMAX := Lib.hid hmax
  have HGA := Lib.hid hga
  have HPB := Lib.hid hPb
  have HGB := Lib.hid hGb
  have HGP := Lib.hid hGP
  have HBASE := Lib.hid hbase
  have HBP := Lib.hid hBP
  have HBG := Lib.hid hBG
  have HDS := Lib.hid hds
  have HRS := Lib.hid hrs
  have HS := Lib.hid (fun W (hb : Below w.heap.size w W) => hS.below hb)
  clear hS hnx hmax hga hPb hGb hGP hbase hBP hBG hds hrs
  obtain ⟨i0, hi, hz0, hz1, hz2⟩ := info_parts rule_info
  have HDV := Lib.hid hv
  have HO := Lib.hid ho
  have HV0 := Lib.hid hi0
  have HRT := Lib.hid hr2
  have HSO := Lib.hid hs
  obtain ⟨⟨⟨k2, s2, n2, q2⟩, a2⟩, hpp⟩ : ∃ p, pk N r1 0 = p := ⟨_, rfl⟩
  have HPP := Lib.hid hpp
  have HF := Lib.hid (show clauseM N ds rs (L.drop nx) = (markP N [46] (⟨h0, b0⟩ : RuleL) r3).map fun c => (ds, rs ++ [c]) by
    unfold clauseM
    have h5 : (rs.length == 400) = false := by simp at h4 ⊢; omega
    rw [hv]
    simp only [h5, Bool.false_eq_true, if_false]
    unfold ruleP
    rw [ho]
    simp only [hi0, if_true, hr2, hs])
  clear hv ho hp hi0 hr2 hs hpp
  go_enter Tryz.func52, Tryz.ntmps52
  go_wp2_with (first
    | (go_at_call 85; ((with_reducible refine (declares_calls false _ (HS.out _ ((Below.refl _ _).alloc (Nat.le_refl _) _)) HDV.out).mono ?_); rintro e w1 ⟨rfl, hb1⟩; have HB1 := Lib.hid (below_then' ((Below.refl w.heap.size w).alloc (Nat.le_refl _) (.cells #[.pointer (some ⟨P, 0, none⟩)] 61)) hb1 (Nat.le_refl _)); have hbx1 := blk_keep (heap_alloc_new w (.cells #[.pointer (some ⟨P, 0, none⟩)] 61)) (grown_below hb1 none) (by simp); have pb1 := cell_of_row w1 w.heap.size 0 _ _ _ hbx1; have HBX1 := Lib.hid hbx1; clear hb1 hbx1))
    | (go_at_call 36; ((with_reducible refine (peek0_calls ⟨k, s, n, q⟩ a _ (HS.out _ HB1.out) HP.out).mono ?_); rintro e w2 ⟨rfl, hb2⟩; have hW2 := grown_trans (grown_below (below_then' HB1.out hb2 (Nat.le_refl _)) (some P)) (World.grownBy_alloc w2 (.cells #[.int .i64 (k : Int), .string (bs s), .int .i64 n, .bool q, .int .i64 (a : Int)] 71) (some P)); have hbx2 := blk_keep (blk_keep HBX1.out (grown_below hb2 none) (by simp)) (World.grownBy_alloc w2 (.cells #[.int .i64 (k : Int), .string (bs s), .int .i64 n, .bool q, .int .i64 (a : Int)] 71) none) (by simp); have pb2 := cell_of_row (w2.alloc (.cells #[.int .i64 (k : Int), .string (bs s), .int .i64 n, .bool q, .int .i64 (a : Int)] 71)) w.heap.size 0 _ _ _ hbx2; have HBX2 := Lib.hid hbx2; have hga2 := HGA.out.kept hW2 HPB.out HGP.out; have g0 := cell_of_row (w2.alloc (.cells #[.int .i64 (k : Int), .string (bs s), .int .i64 n, .bool q, .int .i64 (a : Int)] 71)) G 0 _ _ _ hga2.b; have g1 := cell_of_row (w2.alloc (.cells #[.int .i64 (k : Int), .string (bs s), .int .i64 n, .bool q, .int .i64 (a : Int)] 71)) G 1 _ _ _ hga2.b; have HS2 := Lib.hid (HS.out _ (below_then' (below_then' HB1.out hb2 (Nat.le_refl _)) ((Below.refl w2.heap.size w2).alloc (Nat.le_refl _) (.cells #[.int .i64 (k : Int), .string (bs s), .int .i64 n, .bool q, .int .i64 (a : Int)] 71)) (Nat.le_refl _))); have HW2 := Lib.hid hW2; clear hb2 hW2 hbx2 hga2 pb1))
    | (go_at_call 34; ((with_reducible refine (atom_calls _ (po_mk HNX.out HS2.out) HMAX.out).mono ?_); rintro e w3 ⟨hg3, x, va, rfl, hta, hgot⟩; obtain ⟨Aa, ca, rfl⟩ := o_slice hta; rw [HO.out] at hgot; obtain ⟨hxx, nx1, hnx1, hr1, hS1⟩ := hgot; have HLT3 := Lib.hid (show P < w3.heap.size from hS1.lt); have HS3 := Lib.hid (hS1.below ((Below.refl w3.heap.size w3).alloc (Nat.le_refl _) (.cells #[.string (bs x.p), .slice Aa x.a.length ca, .slice none 0 0] 50))); have HEL3 := Lib.hid (heap_alloc_new w3 (.cells #[.string (bs x.p), .slice Aa x.a.length ca, .slice none 0 0] 50)); have hbx := blk_keep (blk_keep HBX2.out hg3 (by have := HLT.out; simp; omega)) (World.grownBy_alloc w3 (.cells #[.string (bs x.p), .slice Aa x.a.length ca, .slice none 0 0] 50) none) (by simp); have pb3 := cell_of_row (w3.alloc (.cells #[.string (bs x.p), .slice Aa x.a.length ca, .slice none 0 0] 50)) w.heap.size 0 _ _ _ hbx; have HBX3 := Lib.hid hbx; have HWP := Lib.hid (grown_trans HW2.out hg3); have HW3 := Lib.hid (grown_trans HWP.out (World.grownBy_alloc w3 (.cells #[.string (bs x.p), .slice Aa x.a.length ca, .slice none 0 0] 50) _)); have HV3 := Lib.hid (World.grownBy_alloc w3 (.cells #[.string (bs x.p), .slice Aa x.a.length ca, .slice none 0 0] 50) (some P)); have HTA3 := Lib.hid (show TermsAt base w3 x.a (.slice Aa x.a.length ca) from TermsAt.base hta (Nat.le_trans HBASE.out HW2.out.size)); have HXX := Lib.hid hxx; have HNX1 := Lib.hid hnx1; have HR1 := Lib.hid hr1; have HVI := Lib.hid (show isM N (L.drop nx1) 0 (⟨#[58, 45]⟩ : ByteArray).data.toList = true by rw [hr1]; exact HV0.out); have HIN1 := Lib.hid (comma_in HVI.out); have HX2 := Lib.hid (show nx1 + 1 ≤ 1000000 by have := HIN1.out; have := HN.out; omega); have HP2 := Lib.hid (show pk N (L.drop nx1) 0 = (⟨k2, s2, n2, q2⟩, a2) by rw [hr1]; exact HPP.out); have HR2 := Lib.hid (show L.drop (nx1 + 1) = r2 by rw [← HRT.out, ← hr1, List.tail_drop]); clear hxx hnx1 hr1; clear hg3 hS1 hbx hta g0 g1))
    | (go_at_call 33; ((with_reducible refine (pok_calls true _ HS3.out rfl).mono ?_); rintro e w' ⟨rfl, rfl⟩))
    | (go_at_call 60; ((with_reducible refine (is_calls ⟨#[58, 45]⟩ true _ HS3.out HVI.out).mono ?_); rintro e w4 ⟨rfl, hb4⟩; have HS4 := Lib.hid (HS3.out.below hb4); have hbx := blk_keep HBX3.out (grown_below hb4 none) (by simp); have pb4 := cell_of_row w4 w.heap.size 0 _ _ _ hbx; have HBX4 := Lib.hid hbx; have HEL4 := Lib.hid (blk_keep HEL3.out (grown_below hb4 none) (by simp)); have HW4 := Lib.hid (grown_trans HW3.out (grown_below hb4 (some P))); have HV4 := Lib.hid (grown_trans HV3.out (grown_below hb4 (some P))); clear hbx; clear hb4))
    | (go_at_call 61; ((with_reducible refine (takeA_calls _ k2 s2 n2 q2 a2 _ HS4.out HX2.out HP2.out rfl).mono ?_); rintro e w5 ⟨rfl, hs5, hg5⟩; have HS5 := Lib.hid hs5; have hbx := blk_keep HBX4.out hg5 (by have := HLT.out; simp; omega); have pb5 := cell_of_row w5 w.heap.size 0 _ _ _ hbx; have HBX5 := Lib.hid hbx; have HEL5 := Lib.hid (blk_keep HEL4.out hg5 (by have := HLT3.out; simp; omega)); have HW5 := Lib.hid (grown_trans HW4.out hg5); have HV5 := Lib.hid (grown_trans HV4.out hg5); clear hbx; clear hs5 hg5))
    | (go_at_call 62; refine RowKit.Hid.out ?_))
  refine Lib.hid ?_
  (with_reducible refine (someI_calls (L := L) (A := A) (c := c) 87 #[.pointer (some ⟨w3.heap.size, 0, none⟩), .pointer (some ⟨w.heap.size, 0, none⟩)] en_body (litP N) (BodyJ P w3.heap.size w.heap.size (bs x.p) (.slice Aa x.a.length ca) w3) (fun u u' acc hj hg => hj.step (Nat.le_refl _) (by have := HLT.out; omega) HLT3.out hg) 65700 (by omega) (by omega) (fun u acc r' hl hpo hj => body_calls w3 u acc HLT3.out (Nat.le_refl _) (by have := HLT.out; omega) hl HMAX.out hpo hj) 8 8 rfl (by omega) r2 _ ?_ ?_).mono ?_)
  (focus (exact ⟨nx1 + 1, HIN1.out, HR2.out, HS5.out⟩))
  (focus (exact ⟨HV5.out, ⟨_, HEL5.out, [], rfl, World.ownsRow_nil _ _ _ _, fun p hp => by cases hp⟩, HBX5.out⟩))
  rintro e w8 ⟨rfl, acc, hj8, hgot8⟩
  rw [HSO.out] at hgot8
  obtain ⟨vb8, hb8, hl8⟩ := hj8.a
  have hl8' := hl8
  obtain ⟨ps8, hps8, ho8, _⟩ := hl8'
  obtain ⟨Ab, cb, rfl⟩ := o_slice ho8
  have HLI8 := Lib.hid hl8
  have HEL8 := Lib.hid hb8
  have HBX8 := Lib.hid hj8.b
  have pb8 := cell_of_row w8 w.heap.size 0 _ _ _ hj8.b
  have HV8 := Lib.hid hj8.g
  have HW8 := Lib.hid (grown_trans HWP.out hj8.g)
  have HGOT8 := Lib.hid hgot8
  clear hb8 hl8 hj8 hgot8 ho8 hps8
  go_wp2_with (go_at_call 65; ((with_reducible refine (mark_ok_calls ⟨#[46]⟩ _ HGOT8.out.isOk.2 ?_).mono ?_); (focus (first | omega | exact Nat.le_refl _)); rintro e w6 ⟨rfl, hg6, hgot6⟩; have hbx := blk_keep HBX8.out hg6 (by have := HLT.out; simp; omega); have pb6 := cell_of_row w6 w.heap.size 0 _ _ _ hbx; have HBX6 := Lib.hid hbx; have HEL6 := Lib.hid (blk_keep HEL8.out hg6 (by have := HLT3.out; simp; omega)); have HW6 := Lib.hid (grown_trans HW8.out hg6); have HV6 := Lib.hid (grown_trans HV8.out hg6); clear hbx; have HG86 := Lib.hid hg6; have hga6 := HGA.out.kept HW6.out HPB.out HGP.out; have g0 := cell_of_row w6 G 0 _ _ _ hga6.b; have g1 := cell_of_row w6 G 1 _ _ _ hga6.b; have g0a := fun o => cell_below ((Below.refl w6.heap.size w6).alloc (Nat.le_refl _) o) g0; have g1a := fun o => cell_below ((Below.refl w6.heap.size w6).alloc (Nat.le_refl _) o) g1; have e0 := cell_of_row w6 w3.heap.size 0 _ _ _ HEL6.out; have e1 := cell_of_row w6 w3.heap.size 1 _ _ _ HEL6.out; have e2 := cell_of_row w6 w3.heap.size 2 _ _ _ HEL6.out; have HGA6 := Lib.hid hga6; have HGOT6 := Lib.hid hgot6; clear hg6 hgot6 hga6))
  obtain ⟨qs, hqs, hoq, hqq⟩ := HGA6.out.r
  have hql : qs.length = rs.length := by rw [← hqs]; simp
  rw [hql] at hoq
  have HOQ := Lib.hid hoq
  have HQQ := Lib.hid hqq
  have HQS := Lib.hid hqs
  clear hoq hqq hqs hql
  go_region_law (first
    | (refine step_append_lies _ rfl (.tmp 87) (.tmp 89) 34 rfl base 50 i0 (.agg #[.string ⟨#[]⟩, .slice none 0 0, .slice none 0 0]) 3 64 Tryz.underlying34 hi hz0 hz1 hz2 ?_ ?_ (.slice Ar rs.length cr) rs.length (qs.flatMap ruleC) ?_ ?_ ⟨w6.heap.size, 0, none⟩ 1 1 [.string (bs x.p), .slice Aa x.a.length ca, .slice Ab ps8.length cb] ?_ ?_ ?_ ?_ ?_ ?_ ?_ ?_ _ rfl ?_; rfl; decide; rfl; exact HOQ.out.alloc _; rfl; rfl; exact o_cells #[.string (bs x.p), .slice Aa x.a.length ca, .slice Ab ps8.length cb] 50; (intro u hu; simp at hu; rcases hu with rfl | rfl | rfl <;> rfl); decide; (have := HRS.out; unfold maxLen; omega); (have := HRS.out; omega); (have := HBASE.out; have := HW6.out.size; simp; omega); intro g cap W7 hown hgrow hat hlt; have hgW : w6.grownBy W7 (Value.ownBlock (.slice Ar rs.length cr)) := grown_trans (World.grownBy_alloc w6 (.cells #[.string (bs x.p), .slice Aa x.a.length ca, .slice Ab ps8.length cb] 50) _) (un_drew hgrow); have hg7 := blk_keep HGA6.out.b hgW (o_ne HOQ.out HGA6.out.b (by decide)); have hs7 := cell_of_row W7 G 1 _ _ _ hg7; have hf7 := frozen_of_row W7 G 1 _ _ hg7; have HG7 := Lib.hid hg7; have HOWN := Lib.hid hown; have HGW := Lib.hid hgW; clear hown hgrow hat hlt hgW hg7))
  all_goals
    go_wp2_with fail
    have hgS := grown_set (World.grownBy.refl W7 (some G)) 1 (.slice (some ⟨g, 0, none⟩) (rs.length + 1) cap)
    have hown := HOWN.out
    have hta6 : TermsAt base w6 x.a (.slice Aa x.a.length ca) := HTA3.out.kept HV6.out (fun j hj => by cases hj; exact .inl HPB.out)
    have hli6 : LitsAt base w6 acc (.slice Ab ps8.length cb) := ((HLI8.out.kept (show w8.grownBy w6 (some P) from HG86.out) (fun j hj => by cases hj; exact .inl HLT3.out)).base (Nat.le_trans HBASE.out HWP.out.size))
    have hrow : ∀ j, Value.ownBlock (.slice Ar rs.length cr) = some j → ∃ C t m, w6.heap[j]? = some (.cells C t m) ∧ t = 50 := o_block HOQ.out
    have hkt : ∀ l u, TermsAt base w6 l u → TermsAt base (W7.setCell ⟨G, 1, none⟩ (.slice (some ⟨g, 0, none⟩) (rs.length + 1) cap)) l u := fun l u h =>
      (h.kept HGW.out (fun j hj => by obtain ⟨C, t, m, hc, ht⟩ := hrow j hj; exact .inr ⟨C, t, m, hc, by rw [ht]; decide⟩)).kept hgS (fun j hj => by cases hj; exact .inl HGB.out)
    have hkl : ∀ l u, LitsAt base w6 l u → LitsAt base (W7.setCell ⟨G, 1, none⟩ (.slice (some ⟨g, 0, none⟩) (rs.length + 1) cap)) l u := fun l u h =>
      (h.kept HGW.out (fun j hj => by obtain ⟨C, t, m, hc, ht⟩ := hrow j hj; exact .inr ⟨C, t, m, hc, by rw [ht]; decide, by rw [ht]; decide⟩)).kept hgS (fun j hj => by cases hj; exact .inl HGB.out)
    first | go_end0 | refine bodyPost_ret (results_none rfl _ _ _) rfl ?_
    refine ⟨rfl, ((below_ofP HW6.out HBP.out (Nat.le_trans HBP.out (Nat.le_of_lt HLT.out))).grown HGW.out (Nat.le_trans HBP.out (Nat.le_trans (Nat.le_of_lt HLT.out) HW6.out.size)) (fun j hj => by have := o_from HOQ.out j hj; have := HBP.out; have := HPB.out; omega)).setCell HBG.out _, ds, rs ++ [⟨x, acc⟩], Ad, some ⟨g, 0, none⟩, cd, cap, ⟨?_, ?_, ?_⟩, ?_⟩
    · rw [List.length_append, List.length_singleton]
      exact set_at HG7.out _ rfl
    · exact (HGA6.out.d.kept HGW.out (fun j hj => by obtain ⟨C, t, m, hc, ht⟩ := hrow j hj; exact .inr ⟨C, t, m, hc, by rw [ht]; decide⟩)).kept hgS (fun j hj => by cases hj; exact .inl HGB.out)
    · refine ⟨qs ++ [(⟨x, acc⟩, Value.slice Aa x.a.length ca, .slice Ab ps8.length cb)], by rw [List.map_append, HQS.out]; rfl, ?_, ?_⟩
      · have hl : (qs ++ [((⟨x, acc⟩ : RuleL), Value.slice Aa x.a.length ca, (.slice Ab ps8.length cb : Value))]).length = rs.length + 1 := by rw [List.length_append, List.length_singleton, ← HQS.out, List.length_map]
        have hl2 : (rs ++ [(⟨x, acc⟩ : RuleL)]).length = rs.length + 1 := by simp
        rw [hl, hl2, List.flatMap_append]
        exact o_keptR hown hgS (fun j hj => by cases hj; exact .inl HGB.out)
      · intro y hy
        rcases List.mem_append.1 hy with hy | hy
        · exact ⟨hkt _ _ (HQQ.out y hy).1, hkl _ _ (HQQ.out y hy).2⟩
        · rw [List.mem_singleton.1 hy]
          exact ⟨hkt _ _ hta6, hkl _ _ hli6⟩
    · rw [HF.out]
      refine PGot.step (PGot.step ?_ HGW.out (fun j hj => ⟨by have := o_from HOQ.out j hj; have := HPB.out; omega, ?_⟩)) hgS (fun j hj => by cases hj; exact ⟨HGP.out, _, _, _, HG7.out, by decide⟩)
      · exact (mark_rel (⟨h0, b0⟩ : RuleL) HGOT6.out).map _ (by omega) (fun y hy => by rw [hy, HXX.out, HGOT8.out.isOk.1])
      · obtain ⟨C, t, m, hc, ht⟩ := hrow j hj
        exact ⟨C, t, m, hc, by rw [ht]; decide⟩

end Go.Proofs.YtminbdcabacfbaaGreatDoor.V

namespace Go.Proofs.YtminbdcabacfbaaGreatDoor.V
set_option linter.unusedVariables false
set_option linter.unusedSimpArgs false
open Go.RowKit

theorem clause_calls {P : Nat} {L : List TP} {N : Nat} {A : Option Addr} {c base G B : Nat} {ds : List DeclL} {rs : List RuleL} {Ad Ar : Option Addr} {cd cr : Nat} {r : List TP} (w : World) (h : PO P L N A c r w) (hmax : ∀ p ∈ L, p.1.s.length ≤ 65536) (hga : GAt base G w ds rs Ad Ar cd cr)
    (hPb : P < base) (hGb : G < base) (hGP : G ≠ P) (hbase : base ≤ w.heap.size) (hBP : B ≤ P) (hBG : B ≤ G) (hds : ds.length ≤ 400) (hrs : rs.length ≤ 400) :
    Calls Tryz.prog 52 #[.pointer (some ⟨P, 0, none⟩), .pointer (some ⟨G, 0, none⟩)] w fun e w' => e = .returned (.tuple #[]) ∧ Below B w w' ∧ ∃ ds' rs' Ad' Ar' cd' cr', GAt base G w' ds' rs' Ad' Ar' cd' cr' ∧ PGot P L N A c 66000 (clauseM N ds rs r) (fun y => y = (ds', rs')) w' := by
  obtain ⟨nx, hnx, rfl, hS⟩ := h
  obtain ⟨⟨⟨k, s, n, q⟩, a⟩, hp⟩ : ∃ p, pk N (L.drop nx) 0 = p := ⟨_, rfl⟩
  cases hv : isM N (L.drop nx) 1 [47] with
  | true =>
    cases h4 : (((ds.length : Nat) : Int) == 400) with
    | true => exact clause_dfull w hnx hS hmax hga hPb hGb hGP hbase hBP hBG hds hrs k s n q a hp hv h4
    | false =>
      cases ho : nameP N (L.drop nx) with
      | bad a0 e0 => exact clause_dname w hnx hS hmax hga hPb hGb hGP hbase hBP hBG hds hrs k s n q a hp hv h4 a0 e0 ho
      | ok p0 r1 =>
        cases hr : arityP N r1.tail with
        | bad a0 e0 => exact clause_darity w hnx hS hmax hga hPb hGb hGP hbase hBP hBG hds hrs k s n q a hp hv h4 p0 r1 ho a0 e0 hr
        | ok m0 r2 => exact clause_ddecl w hnx hS hmax hga hPb hGb hGP hbase hBP hBG hds hrs k s n q a hp hv h4 p0 r1 ho m0 r2 hr
  | false =>
    cases h4 : (((rs.length : Nat) : Int) == 400) with
    | true => exact clause_rfull w hnx hS hmax hga hPb hGb hGP hbase hBP hBG hds hrs k s n q a hp hv h4
    | false =>
      cases ho : atomP N (L.drop nx) with
      | bad a0 e0 => exact clause_ratom w hnx hS hmax hga hPb hGb hGP hbase hBP hBG hds hrs k s n q a hp hv h4 a0 e0 ho
      | ok h0 r1 =>
        cases hi0 : isM N r1 0 [58, 45] with
        | false => exact clause_rhead w hnx hS hmax hga hPb hGb hGP hbase hBP hBG hds hrs k s n q a hp hv h4 h0 r1 ho hi0
        | true =>
          cases hs : someP (litP N) N 8 r1.tail with
          | bad a0 e0 => exact clause_rbody w hnx hS hmax hga hPb hGb hGP hbase hBP hBG hds hrs k s n q a hp hv h4 h0 r1 r1.tail ho hi0 rfl a0 e0 hs
          | ok b0 r3 => exact clause_rrule w hnx hS hmax hga hPb hGb hGP hbase hBP hBG hds hrs k s n q a hp hv h4 h0 r1 r1.tail ho hi0 rfl b0 r3 hs

theorem quotL_max : ∀ (n : Nat) (l : List UInt8), l.length ≤ n → ∀ b r, quotL l = some (b, r) → b.length ≤ l.length := by
  intro n
  induction n with
  | zero =>
    intro l hl b r h
    match l, hl with
    | [], _ => simp [quotL] at h
  | succ n ih =>
    intro l hl b r h
    match l with
    | [] => simp [quotL] at h
    | [c] =>
      unfold quotL at h
      split at h
      · simp at h; rw [← h.1]; simp
      · simp at h
    | c :: d :: u =>
      unfold quotL at h
      split at h
      · simp only [Option.some.injEq, Prod.mk.injEq] at h; rw [← h.1]; simp
      · split at h
        · simp at h
        · split at h
          · split at h
            · simp only [Option.map_eq_some_iff] at h
              obtain ⟨p, hp, he⟩ := h
              have := ih u (by simp at hl; omega) p.1 p.2 hp
              simp at he
              rw [← he.1]; simp; omega
            · simp at h
          · simp only [Option.map_eq_some_iff] at h
            obtain ⟨p, hp, he⟩ := h
            have := ih (d :: u) (by simp at hl ⊢; omega) p.1 p.2 hp
            simp at he this
            rw [← he.1]; simp; omega
theorem oneL_max {c : UInt8} {t : List UInt8} {k : Tok} {r : List UInt8} (h : oneL c t = .tok k r) : k.s.length ≤ (c :: t).length := by
  have hn : ∀ kk, namedL kk (c :: t) = .tok k r → k.s.length ≤ (c :: t).length := by
    intro kk h
    unfold namedL at h
    split at h
    · simp at h
    · simp only [Got.tok.injEq] at h
      rw [← h.1]
      exact (List.takeWhile_prefix _).length_le
  unfold oneL at h
  split at h
  · exact hn 1 h
  · split at h
    · exact hn 2 h
    · split at h
      · unfold numL at h
        split at h
        · simp only [Got.tok.injEq] at h
          rw [← h.1]; simp
        · simp at h
      · split at h
        · cases hq : quotL t with
          | none => rw [hq] at h; simp [qres] at h
          | some p =>
            rw [hq] at h
            simp only [qres, Got.tok.injEq] at h
            have := quotL_max _ t (Nat.le_refl _) p.1 p.2 hq
            rw [← h.1]
            simp
            omega
        · unfold markL at h
          split at h
          · simp only [Got.tok.injEq] at h
            rw [← h.1]
            exact (List.take_prefix 2 _).length_le
          · split at h
            · simp only [Got.tok.injEq] at h
              rw [← h.1]
              exact (List.take_prefix 1 _).length_le
            · simp at h
theorem scanF_max : ∀ (f N : Nat) (l : List UInt8) (ts : List TP), scanF f N l = .ok ts → ∀ p ∈ ts, p.1.s.length ≤ l.length := by
  intro f
  induction f with
  | zero => intro N l ts h p hp; simp [scanF] at h; rw [h] at hp; cases hp
  | succ f ih =>
    intro N l ts h p hp
    unfold scanF at h
    have hs := skipR_le l false
    split at h
    · simp at h; rw [h] at hp; cases hp
    · rename_i c t hc
      rw [hc] at hs
      split at h
      · simp at h
      · rename_i k r ho
        cases hr : scanF f N r with
        | bad a e => rw [hr] at h; simp [Scan.cons] at h
        | ok us =>
          rw [hr] at h
          simp only [Scan.cons, Scan.ok.injEq] at h
          rw [← h] at hp
          rcases List.mem_cons.1 hp with rfl | hp
          · exact Nat.le_trans (oneL_max ho) hs
          · have := ih N r us hr p hp
            have := oneL_lt c t k r ho
            omega
theorem scanL_max {s : List UInt8} {ts : List TP} (h : scanL s = .ok ts) : ∀ p ∈ ts, p.1.s.length ≤ 65536 := by
  unfold scanL at h
  split at h
  · simp at h
  · intro p hp
    have := scanF_max _ _ _ _ h p hp
    omega

/-- What parsing hands back. -/
def ParsingIs (s : ByteArray) (w : World) (e : Ending) (w' : World) : Prop :=
  ∃ P, e = .returned (.pointer (some ⟨P, 0, none⟩)) ∧ w.heap.size ≤ P ∧ Below w.heap.size w w' ∧ match scanL s.data.toList with
    | .bad a n => n ≠ 0 ∧ w'.heap[P]? = some (.cells #[.slice none 0 0, .int .i64 0, .int .i64 (s.size : Int), .int .i64 (a : Int), .int .i64 (n : Int)] 68 (0, 0))
    | .ok l => ∃ A c, PS P l s.size 0 0 0 A c w'
theorem scan_bad {s : List UInt8} {a n : Nat} (h : scanL s = .bad a n) : n ≠ 0 := by
  have key : ∀ f N l a n, scanF f N l = .bad a n → n ≠ 0 := by
    intro f
    induction f with
    | zero => intro N l a n h; simp [scanF] at h
    | succ f ih =>
      intro N l a n h
      unfold scanF at h
      split at h
      · simp at h
      · split at h
        · rename_i e he
          simp at h
          have := oneL_bad he
          omega
        · rename_i k r ho
          cases hr : scanF f N r with
          | bad a' e' => rw [hr] at h; simp [Scan.cons] at h; rw [← h.2]; exact ih _ _ _ _ hr
          | ok us => rw [hr] at h; simp [Scan.cons] at h
  unfold scanL at h
  split at h
  · simp at h; omega
  · exact key _ _ _ _ _ h
theorem scan_size {s : List UInt8} {l : List TP} (h : scanL s = .ok l) : s.length ≤ 65536 := by
  unfold scanL at h
  split at h
  · simp at h
  · omega

set_option maxRecDepth 100000 in
set_option maxHeartbeats 4000000 in
theorem parsing_calls (s : ByteArray) (w : World) (hs : s.size ≤ 9223372036854775807) (hE : ErrW w) :
    Calls Tryz.prog 32 #[.string s] w (ParsingIs s w) := by
  have HE := Lib.hid hE
  clear hE
  cases ho : scanL s.data.toList with
  | bad a n =>
    have HO := Lib.hid ho
    have HN := Lib.hid (scan_bad ho)
    clear ho
    go_enter Tryz.func32, Tryz.ntmps32
    go_wp2_with (go_at_call 58; ((with_reducible refine (scan_calls s _ hs HE.out).mono ?_); rintro e w1 ⟨hb, hsc⟩; rw [HO.out] at hsc; have hsc2 : e = .returned (.tuple #[.slice none 0 0, .int .i64 (a : Int), .int .i64 (n : Int)]) := hsc; subst hsc2; have HB := Lib.hid hb; clear hsc hb))
    go_ret
    refine ⟨w1.heap.size, rfl, HB.out.size, HB.out.alloc HB.out.size _, ?_⟩
    rw [HO.out]
    exact ⟨HN.out, heap_alloc_new w1 _⟩
  | ok l =>
    have HO := Lib.hid ho
    clear ho
    go_enter Tryz.func32, Tryz.ntmps32
    go_wp2_with (go_at_call 58; ((with_reducible refine (scan_calls s _ hs HE.out).mono ?_); rintro e w1 ⟨hb, hsc⟩; rw [HO.out] at hsc; obtain ⟨v, he, hown, _, hl⟩ := hsc; obtain ⟨A1, c1, rfl⟩ := o_slice hown; subst he; have HB := Lib.hid hb; have HOWN := Lib.hid hown; have HL := Lib.hid hl; clear hown hb hl))
    go_ret
    refine ⟨w1.heap.size, rfl, HB.out.size, HB.out.alloc HB.out.size _, ?_⟩
    rw [HO.out]
    have h1 := scan_size HO.out
    exact ⟨A1, c1, heap_alloc_new w1 _, (o_base HOWN.out (Nat.zero_le _)).alloc _, HL.out, by simpa using h1, by omega⟩
end Go.Proofs.YtminbdcabacfbaaGreatDoor.V

namespace Go.Proofs.YtminbdcabacfbaaGreatDoor.V
set_option linter.unusedVariables false
open Go.RowKit
set_option linter.unusedSimpArgs false

/-- Which of two texts is ahead; of two numbers. -/
def cmpS (a b : List UInt8) : Int := if Op.bytesLess a b = true then -1 else if a = b then 0 else 1
def cmpN (a b : Int) : Int := if a < b then -1 else if b < a then 1 else 0

theorem cmpInt_calls (a b : Int) (w : World) : Calls Tryz.prog 166 #[.int .i64 a, .int .i64 b] w fun e w' => e = .returned (.int .i64 (cmpN a b)) ∧ w = w' := by
  unfold cmpN
  by_cases h1 : a < b
  · have h1d : decide (a < b) = true := decide_eq_true h1
    go_enter Tryz.func166, Tryz.ntmps166
    go_wp2
    go_ret
    exact ⟨by simp [h1], rfl⟩
  · have h1d : decide (a < b) = false := decide_eq_false h1
    by_cases h2 : b < a
    · have h2d : decide (b < a) = true := decide_eq_true h2
      go_enter Tryz.func166, Tryz.ntmps166
      go_wp2
      go_ret
      exact ⟨by simp [h1, h2], rfl⟩
    · have h2d : decide (b < a) = false := decide_eq_false h2
      go_enter Tryz.func166, Tryz.ntmps166
      go_wp2
      go_ret
      exact ⟨by simp [h1, h2], rfl⟩

theorem cmpStr_calls (a b : ByteArray) (w : World) : Calls Tryz.prog 165 #[.string a, .string b] w fun e w' => e = .returned (.int .i64 (cmpS a.toList b.toList)) ∧ w = w' := by
  unfold cmpS
  cases h1 : Op.bytesLess a.toList b.toList with
  | true =>
    go_enter Tryz.func165, Tryz.ntmps165
    go_wp2
    go_ret
    exact ⟨by simp, rfl⟩
  | false =>
    by_cases h2 : a.toList = b.toList
    · have h2d : (a.toList == b.toList) = true := beq_iff_eq.2 h2
      have H2 := Lib.hid h2
      clear h2
      go_enter Tryz.func165, Tryz.ntmps165
      go_wp2
      go_ret
      exact ⟨by simp [H2.out], rfl⟩
    · have h2d : (a.toList == b.toList) = false := beq_eq_false_iff_ne.2 h2
      go_enter Tryz.func165, Tryz.ntmps165
      go_wp2
      go_ret
      exact ⟨by simp [h2], rfl⟩

/-- Which of two values is ahead. -/
def cmpV (s : Bool) (t : List UInt8) (n : Int) (s' : Bool) (t' : List UInt8) (n' : Int) : Int := match s, s' with
  | true, true => cmpS t t'
  | true, false => 1
  | false, true => -1
  | false, false => cmpN n n'
theorem compare_calls (s : Bool) (t : ByteArray) (n : Int) (s' : Bool) (t' : ByteArray) (n' : Int) (w : World) :
    Calls Tryz.prog 141 #[.agg #[.bool s, .string t, .int .i64 n], .agg #[.bool s', .string t', .int .i64 n']] w fun e w' => e = .returned (.int .i64 (cmpV s t.toList n s' t'.toList n')) ∧ Below w.heap.size w w' := by
  have hb : ∀ o p : Obj, Below w.heap.size w ((w.alloc o).alloc p) := fun o p => ((Below.refl _ _).alloc (Nat.le_refl _) o).alloc (by simp) p
  cases s <;> cases s'
  all_goals
    go_enter Tryz.func141, Tryz.ntmps141
    go_wp2_with (first | (go_at_call 165; refine (cmpStr_calls _ _ _).mono ?_; rintro e w' ⟨rfl, rfl⟩) | (go_at_call 166; refine (cmpInt_calls _ _ _).mono ?_; rintro e w' ⟨rfl, rfl⟩))
    go_ret
    exact ⟨rfl, hb _ _⟩
end Go.Proofs.YtminbdcabacfbaaGreatDoor.V
