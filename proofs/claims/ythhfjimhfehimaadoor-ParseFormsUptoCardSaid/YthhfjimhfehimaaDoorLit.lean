/- (*parser).literal. -/
import Derived.Test.YthhfjimhfehimaaDoorAtom
namespace Go.Proofs.YthhfjimhfehimaaDoor.V
set_option linter.unusedVariables false
set_option linter.unusedSimpArgs false
open Go.RowKit

def litC (x : LitL) (v : Value) : List Value := [.int .i64 (x.k : Int), .string (bs x.a.p), v, .string (bs x.o), .bool x.l.v, .string (bs x.l.x), .bool x.l.s, .string (bs x.l.t), .int .i64 x.l.n, .bool x.r.v, .string (bs x.r.x), .bool x.r.s, .string (bs x.r.t), .int .i64 x.r.n]
/-- A block of a literal's cells is stored whole. -/
abbrev litSet (T : Nat) (u0 u1 u2 u3 u4 u5 u6 u7 u8 u9 u10 u11 u12 u13 : Value) (w : World) : World := ((((((((((((((w.setCell ⟨T, 0, none⟩ u0).setCell ⟨T, 1, none⟩ u1).setCell ⟨T, 2, none⟩ u2).setCell ⟨T, 3, none⟩ u3).setCell ⟨T, 4, none⟩ u4).setCell ⟨T, 5, none⟩ u5).setCell ⟨T, 6, none⟩ u6).setCell ⟨T, 7, none⟩ u7).setCell ⟨T, 8, none⟩ u8).setCell ⟨T, 9, none⟩ u9).setCell ⟨T, 10, none⟩ u10).setCell ⟨T, 11, none⟩ u11).setCell ⟨T, 12, none⟩ u12).setCell ⟨T, 13, none⟩ u13)
theorem set_at {w : World} {b i : Nat} {cs cs' : Array Value} {t : TypeId} (h : w.heap[b]? = some (.cells cs t (0, 0))) (u : Value) (he : cs.setIfInBounds i u = cs') : (w.setCell ⟨b, i, none⟩ u).heap[b]? = some (.cells cs' t (0, 0)) := by
  rw [set_block h u, he]
theorem litSet_block {T : Nat} {w : World} {t : TypeId} {c0 c1 c2 c3 c4 c5 c6 c7 c8 c9 c10 c11 c12 c13 : Value} (h : w.heap[T]? = some (.cells #[c0, c1, c2, c3, c4, c5, c6, c7, c8, c9, c10, c11, c12, c13] t (0, 0))) (u0 u1 u2 u3 u4 u5 u6 u7 u8 u9 u10 u11 u12 u13 : Value) : (litSet T u0 u1 u2 u3 u4 u5 u6 u7 u8 u9 u10 u11 u12 u13 w).heap[T]? = some (.cells #[u0, u1, u2, u3, u4, u5, u6, u7, u8, u9, u10, u11, u12, u13] t (0, 0)) := by
  have h1 := set_at (i := 0) (cs' := #[u0, c1, c2, c3, c4, c5, c6, c7, c8, c9, c10, c11, c12, c13]) h u0 rfl
  have h2 := set_at (i := 1) (cs' := #[u0, u1, c2, c3, c4, c5, c6, c7, c8, c9, c10, c11, c12, c13]) h1 u1 rfl
  have h3 := set_at (i := 2) (cs' := #[u0, u1, u2, c3, c4, c5, c6, c7, c8, c9, c10, c11, c12, c13]) h2 u2 rfl
  have h4 := set_at (i := 3) (cs' := #[u0, u1, u2, u3, c4, c5, c6, c7, c8, c9, c10, c11, c12, c13]) h3 u3 rfl
  have h5 := set_at (i := 4) (cs' := #[u0, u1, u2, u3, u4, c5, c6, c7, c8, c9, c10, c11, c12, c13]) h4 u4 rfl
  have h6 := set_at (i := 5) (cs' := #[u0, u1, u2, u3, u4, u5, c6, c7, c8, c9, c10, c11, c12, c13]) h5 u5 rfl
  have h7 := set_at (i := 6) (cs' := #[u0, u1, u2, u3, u4, u5, u6, c7, c8, c9, c10, c11, c12, c13]) h6 u6 rfl
  have h8 := set_at (i := 7) (cs' := #[u0, u1, u2, u3, u4, u5, u6, u7, c8, c9, c10, c11, c12, c13]) h7 u7 rfl
  have h9 := set_at (i := 8) (cs' := #[u0, u1, u2, u3, u4, u5, u6, u7, u8, c9, c10, c11, c12, c13]) h8 u8 rfl
  have h10 := set_at (i := 9) (cs' := #[u0, u1, u2, u3, u4, u5, u6, u7, u8, u9, c10, c11, c12, c13]) h9 u9 rfl
  have h11 := set_at (i := 10) (cs' := #[u0, u1, u2, u3, u4, u5, u6, u7, u8, u9, u10, c11, c12, c13]) h10 u10 rfl
  have h12 := set_at (i := 11) (cs' := #[u0, u1, u2, u3, u4, u5, u6, u7, u8, u9, u10, u11, c12, c13]) h11 u11 rfl
  have h13 := set_at (i := 12) (cs' := #[u0, u1, u2, u3, u4, u5, u6, u7, u8, u9, u10, u11, u12, c13]) h12 u12 rfl
  have h14 := set_at (i := 13) (cs' := #[u0, u1, u2, u3, u4, u5, u6, u7, u8, u9, u10, u11, u12, u13]) h13 u13 rfl
  exact h14
theorem po_mk {P : Nat} {L : List TP} {N : Nat} {A : Option Addr} {c nx : Nat} {W : World} (h1 : nx ≤ L.length) (h3 : PS P L N nx 0 0 A c W) : PO P L N A c (L.drop nx) W := ⟨nx, h1, rfl, h3⟩
theorem field_tok (k : Int) (s : ByteArray) (n : Int) (q : Bool) (a : Int) (w : World) : (Instr.field 60 (.agg #[.int .i64 k, .string s, .int .i64 n, .bool q, .int .i64 a]) 1).run Tryd.prog w = .ok (.string s) w := by
  simp [Instr.field, go_sem, asAgg]
theorem op_in {N : Nat} {L : List TP} {nx : Nat} (h : isO N (L.drop nx) 0 = true) : nx + 1 ≤ L.length := by
  unfold isO at h
  simp only [Bool.and_eq_true, beq_iff_eq] at h
  by_cases hl : nx < L.length
  · exact hl
  · rw [pk_out (by omega)] at h
    exact absurd h.1 (by simp [eofT])
theorem blk_keep {W W' : World} {T : Nat} {o : Obj} {row : Option Nat} (h : W.heap[T]? = some o) (hg : W.grownBy W' row) (hne : some T ≠ row) : W'.heap[T]? = some o := (hg.block T (Array.getElem?_eq_some_iff.1 h).1 hne).trans h
def Par.map {α β : Type} (f : α → β) : Par α → Par β
  | .bad a e => .bad a e
  | .ok x r => .ok (f x) r
theorem PGot.map {α β : Type} {P : Nat} {L : List TP} {N : Nat} {A : Option Addr} {c mm mm' : Nat} {g : Par α} {Q : α → Prop} {Q' : β → Prop} {W : World} (f : α → β) (h : PGot P L N A c mm g Q W) (hm : mm ≤ mm') (hq : ∀ x, Q x → Q' (f x)) : PGot P L N A c mm' (g.map f) Q' W := by
  cases g with
  | bad a e => exact PB.mono h hm
  | ok x r => exact ⟨hq x h.1, h.2⟩
/-- Stores into the result's block, all of a literal's cells. -/
theorem grown_litSet {T : Nat} {w w' : World} {row : Option Nat} (h : w.grownBy w' row) (hT : w.heap.size ≤ T) (u0 u1 u2 u3 u4 u5 u6 u7 u8 u9 u10 u11 u12 u13 : Value) : w.grownBy (litSet T u0 u1 u2 u3 u4 u5 u6 u7 u8 u9 u10 u11 u12 u13 w') row :=
  grown_setNew (grown_setNew (grown_setNew (grown_setNew (grown_setNew (grown_setNew (grown_setNew (grown_setNew (grown_setNew (grown_setNew (grown_setNew (grown_setNew (grown_setNew (grown_setNew h hT _ _) hT _ _) hT _ _) hT _ _) hT _ _) hT _ _) hT _ _) hT _ _) hT _ _) hT _ _) hT _ _) hT _ _) hT _ _) hT _ _
theorem litSet_self {T : Nat} (w : World) (u0 u1 u2 u3 u4 u5 u6 u7 u8 u9 u10 u11 u12 u13 : Value) : w.grownBy (litSet T u0 u1 u2 u3 u4 u5 u6 u7 u8 u9 u10 u11 u12 u13 w) (some T) :=
  grown_set (grown_set (grown_set (grown_set (grown_set (grown_set (grown_set (grown_set (grown_set (grown_set (grown_set (grown_set (grown_set (grown_set (World.grownBy.refl w (some T)) _ _) _ _) _ _) _ _) _ _) _ _) _ _) _ _) _ _) _ _) _ _) _ _) _ _) _ _

set_option maxRecDepth 100000 in
set_option maxHeartbeats 16000000 in
theorem lit_neg {P : Nat} {L : List TP} {N : Nat} {A : Option Addr} {c : Nat} {nx : Nat} (w : World) (hnx : nx ≤ L.length) (hS : PS P L N nx 0 0 A c w) (hmax : ∀ p ∈ L, p.1.s.length ≤ 65536) (K : Int) (k : Nat) (s : List UInt8) (n : Int) (q : Bool) (a : Nat) (hp : pk N (L.drop nx) 0 = (⟨k, s, n, q⟩, a)) (hK : (k : Int) = K) (h1 : (K == 1) = true) (hq : q = false) (hs : ((bs s).toList == [110, 111, 116]) = true) :
    Calls Tryd.prog 26 #[.pointer (some ⟨P, 0, none⟩)] w fun e w' => w.grownBy w' (some P) ∧ ∃ x v, e = .returned (.agg (litC x v).toArray) ∧ TermsAt w.heap.size w' x.a.a v ∧ PGot P L N A c 65700 (litP N (L.drop nx)) (fun y => y = x) w' := by
  have HK := Lib.hid hK
  have HP := Lib.hid hp
  have HLT := Lib.hid hS.lt
  have HN := Lib.hid hS.n
  have HNX := Lib.hid hnx
  have HMAX := Lib.hid hmax
  have HS := Lib.hid (fun W (hb : Below w.heap.size w W) => hS.below hb)
  have HX := Lib.hid (show nx + 1 ≤ 1000000 by have := hS.n; omega)
  have HR0 := Lib.hid (show (w.alloc (.cells #[.int .i64 0, .string ⟨#[]⟩, .slice none 0 0, .string ⟨#[]⟩, .bool false, .string ⟨#[]⟩, .bool false, .string ⟨#[]⟩, .int .i64 0, .bool false, .string ⟨#[]⟩, .bool false, .string ⟨#[]⟩, .int .i64 0] 43)).heap[w.heap.size]? = some (.cells #[.int .i64 0, .string ⟨#[]⟩, .slice none 0 0, .string ⟨#[]⟩, .bool false, .string ⟨#[]⟩, .bool false, .string ⟨#[]⟩, .int .i64 0, .bool false, .string ⟨#[]⟩, .bool false, .string ⟨#[]⟩, .int .i64 0] 43 (0, 0)) from heap_alloc_new w _)
  clear hS hnx hmax hK
  subst hq
  have HT := Lib.hid (k_yes (n := 1) HK.out h1 rfl)
  have HNOT := Lib.hid (show (s == notL) = true by rw [← bs_list s]; exact hs)
  obtain rfl : K = 1 := by simpa using h1
  clear h1
  have HIN := Lib.hid (next_in hp (by show k ≠ 0; have h1 := HT.out; simp at h1; omega))
  have HG0 := Lib.hid (show litP N (L.drop nx) = (atomP N (L.drop (nx + 1))).map (fun y => ⟨2, y, [], term0, term0⟩) by
    unfold litP
    rw [hp]
    simp only [HT.out, HNOT.out, Bool.not_false, Bool.and_self, if_true]
    rw [List.tail_drop]
    cases atomP N (L.drop (nx + 1)) <;> rfl)
  clear hp
  go_enter Tryd.func26, Tryd.ntmps26
  go_wp2_with (first
    | (go_at_call 16; ((with_reducible refine (peekK0_calls 1 k s n false a _ (HS.out _ ((Below.refl _ _).alloc (Nat.le_refl _) _)) HP.out HK.out).mono ?_); rintro e w1 ⟨rfl, hb1⟩; have HG1 := Lib.hid (grown_trans (World.grownBy_alloc w (.cells #[.int .i64 0, .string ⟨#[]⟩, .slice none 0 0, .string ⟨#[]⟩, .bool false, .string ⟨#[]⟩, .bool false, .string ⟨#[]⟩, .int .i64 0, .bool false, .string ⟨#[]⟩, .bool false, .string ⟨#[]⟩, .int .i64 0] 43) (some P)) (grown_below hb1 (some P))); have HR1 := Lib.hid (blk_keep (blk_keep HR0.out (grown_below hb1 none) (by simp)) (World.grownBy_alloc w1 (.cells #[.int .i64 1, .string (bs s), .int .i64 n, .bool false, .int .i64 (a : Int)] 60) none) (by simp)); have HS1 := Lib.hid (HS.out _ (below_then' (below_then' ((Below.refl w.heap.size w).alloc (Nat.le_refl _) _) hb1 (Nat.le_refl _)) ((Below.refl w1.heap.size w1).alloc (Nat.le_refl _) (.cells #[.int .i64 1, .string (bs s), .int .i64 n, .bool false, .int .i64 (a : Int)] 60)) (Nat.le_refl _)));  clear hb1))
    | (go_at_call 20; ((with_reducible refine (takeA_calls 1 k s n false a _ HS1.out HX.out HP.out HK.out).mono ?_); rintro e w2 ⟨rfl, hs2, hg2⟩; have HS2 := Lib.hid hs2; have HG2 := Lib.hid (grown_trans HG1.out (grown_trans (World.grownBy_alloc w1 (.cells #[.int .i64 1, .string (bs s), .int .i64 n, .bool false, .int .i64 (a : Int)] 60) (some P)) hg2)); have HR2 := Lib.hid (blk_keep HR1.out hg2 (by have := HLT.out; simp; omega)); clear hs2 hg2))
    | (go_at_call 14; ((with_reducible refine (atom_calls _ (po_mk HIN.out HS2.out) HMAX.out).mono ?_); rintro e w3 ⟨hg3, xa, va, rfl, hta, hgot⟩; obtain ⟨A3, c3, rfl⟩ := o_slice hta; have HG3 := Lib.hid (grown_trans HG2.out hg3); have hr3 := blk_keep HR2.out hg3 (by have := HLT.out; simp; omega); have HR3 := Lib.hid hr3; have z_0 := cell_of_row w3 (w.heap.size) 0 _ _ _ hr3; have z_1 := cell_of_row w3 (w.heap.size) 1 _ _ _ hr3; have z_2 := cell_of_row w3 (w.heap.size) 2 _ _ _ hr3; have z_3 := cell_of_row w3 (w.heap.size) 3 _ _ _ hr3; have z_4 := cell_of_row w3 (w.heap.size) 4 _ _ _ hr3; have z_5 := cell_of_row w3 (w.heap.size) 5 _ _ _ hr3; have z_6 := cell_of_row w3 (w.heap.size) 6 _ _ _ hr3; have z_7 := cell_of_row w3 (w.heap.size) 7 _ _ _ hr3; have z_8 := cell_of_row w3 (w.heap.size) 8 _ _ _ hr3; have z_9 := cell_of_row w3 (w.heap.size) 9 _ _ _ hr3; have z_10 := cell_of_row w3 (w.heap.size) 10 _ _ _ hr3; have z_11 := cell_of_row w3 (w.heap.size) 11 _ _ _ hr3; have z_12 := cell_of_row w3 (w.heap.size) 12 _ _ _ hr3; have z_13 := cell_of_row w3 (w.heap.size) 13 _ _ _ hr3; have y_0 := frozen_of_row w3 (w.heap.size) 0 _ _ hr3; have y_1 := frozen_of_row w3 (w.heap.size) 1 _ _ hr3; have y_2 := frozen_of_row w3 (w.heap.size) 2 _ _ hr3; have y_3 := frozen_of_row w3 (w.heap.size) 3 _ _ hr3; have y_4 := frozen_of_row w3 (w.heap.size) 4 _ _ hr3; have y_5 := frozen_of_row w3 (w.heap.size) 5 _ _ hr3; have y_6 := frozen_of_row w3 (w.heap.size) 6 _ _ hr3; have y_7 := frozen_of_row w3 (w.heap.size) 7 _ _ hr3; have y_8 := frozen_of_row w3 (w.heap.size) 8 _ _ hr3; have y_9 := frozen_of_row w3 (w.heap.size) 9 _ _ hr3; have y_10 := frozen_of_row w3 (w.heap.size) 10 _ _ hr3; have y_11 := frozen_of_row w3 (w.heap.size) 11 _ _ hr3; have y_12 := frozen_of_row w3 (w.heap.size) 12 _ _ hr3; have y_13 := frozen_of_row w3 (w.heap.size) 13 _ _ hr3; have HTA := Lib.hid (show TermsAt w.heap.size w3 xa.a (.slice A3 xa.a.length c3) from o_base hta HG2.out.size); have HGOT := Lib.hid hgot; clear hr3 hg3 hta hgot)))
  have hset := litSet_block HR3.out (.int .i64 2) (.string (bs xa.p)) (.slice A3 xa.a.length c3) (.string ⟨#[]⟩) (.bool false) (.string ⟨#[]⟩) (.bool false) (.string ⟨#[]⟩) (.int .i64 0) (.bool false) (.string ⟨#[]⟩) (.bool false) (.string ⟨#[]⟩) (.int .i64 0)
  have q0 := cell_of_row _ _ 0 _ _ _ hset
  have q1 := cell_of_row _ _ 1 _ _ _ hset
  have q2 := cell_of_row _ _ 2 _ _ _ hset
  have q3 := cell_of_row _ _ 3 _ _ _ hset
  have q4 := cell_of_row _ _ 4 _ _ _ hset
  have q5 := cell_of_row _ _ 5 _ _ _ hset
  have q6 := cell_of_row _ _ 6 _ _ _ hset
  have q7 := cell_of_row _ _ 7 _ _ _ hset
  have q8 := cell_of_row _ _ 8 _ _ _ hset
  have q9 := cell_of_row _ _ 9 _ _ _ hset
  have q10 := cell_of_row _ _ 10 _ _ _ hset
  have q11 := cell_of_row _ _ 11 _ _ _ hset
  have q12 := cell_of_row _ _ 12 _ _ _ hset
  have q13 := cell_of_row _ _ 13 _ _ _ hset
  have hsz := HG2.out.size
  have hkT := litSet_self (T := w.heap.size) w3 (.int .i64 2) (.string (bs xa.p)) (.slice A3 xa.a.length c3) (.string ⟨#[]⟩) (.bool false) (.string ⟨#[]⟩) (.bool false) (.string ⟨#[]⟩) (.int .i64 0) (.bool false) (.string ⟨#[]⟩) (.bool false) (.string ⟨#[]⟩) (.int .i64 0)
  refine bodyPost_ret (v := .agg #[.int .i64 2, .string (bs xa.p), .slice A3 xa.a.length c3, .string ⟨#[]⟩, .bool false, .string ⟨#[]⟩, .bool false, .string ⟨#[]⟩, .int .i64 0, .bool false, .string ⟨#[]⟩, .bool false, .string ⟨#[]⟩, .int .i64 0]) (by simp [results, Tryd.results26, go_sem, q0, q1, q2, q3, q4, q5, q6, q7, q8, q9, q10, q11, q12, q13]) rfl ⟨grown_litSet (HG3.out) (Nat.le_refl _) (.int .i64 2) (.string (bs xa.p)) (.slice A3 xa.a.length c3) (.string ⟨#[]⟩) (.bool false) (.string ⟨#[]⟩) (.bool false) (.string ⟨#[]⟩) (.int .i64 0) (.bool false) (.string ⟨#[]⟩) (.bool false) (.string ⟨#[]⟩) (.int .i64 0), ⟨2, xa, [], term0, term0⟩, .slice A3 xa.a.length c3, rfl, HTA.out.kept hkT (fun k hk => by cases hk; exact .inr ⟨_, _, _, HR3.out, by decide⟩), ?_⟩
  rw [HG0.out]
  exact (HGOT.out.map _ (by omega) (fun y hy => by rw [hy])).step hkT (fun k hk => by cases hk; exact ⟨by have := HLT.out; omega, _, _, _, HR3.out, by decide⟩)

set_option maxRecDepth 100000 in
set_option maxHeartbeats 16000000 in
theorem lit_pos {P : Nat} {L : List TP} {N : Nat} {A : Option Addr} {c : Nat} {nx : Nat} (w : World) (hnx : nx ≤ L.length) (hS : PS P L N nx 0 0 A c w) (hmax : ∀ p ∈ L, p.1.s.length ≤ 65536) (K : Int) (k : Nat) (s : List UInt8) (n : Int) (q : Bool) (a : Nat) (hp : pk N (L.drop nx) 0 = (⟨k, s, n, q⟩, a)) (hK : (k : Int) = K) (h1 : (K == 1) = true) (hq : q = false) (hs : ((bs s).toList == [110, 111, 116]) = false) (ho : isO N (L.drop nx) 1 = false) :
    Calls Tryd.prog 26 #[.pointer (some ⟨P, 0, none⟩)] w fun e w' => w.grownBy w' (some P) ∧ ∃ x v, e = .returned (.agg (litC x v).toArray) ∧ TermsAt w.heap.size w' x.a.a v ∧ PGot P L N A c 65700 (litP N (L.drop nx)) (fun y => y = x) w' := by
  have HK := Lib.hid hK
  have HP := Lib.hid hp
  have HLT := Lib.hid hS.lt
  have HN := Lib.hid hS.n
  have HNX := Lib.hid hnx
  have HMAX := Lib.hid hmax
  have HS := Lib.hid (fun W (hb : Below w.heap.size w W) => hS.below hb)
  have HX := Lib.hid (show nx + 1 ≤ 1000000 by have := hS.n; omega)
  have HR0 := Lib.hid (show (w.alloc (.cells #[.int .i64 0, .string ⟨#[]⟩, .slice none 0 0, .string ⟨#[]⟩, .bool false, .string ⟨#[]⟩, .bool false, .string ⟨#[]⟩, .int .i64 0, .bool false, .string ⟨#[]⟩, .bool false, .string ⟨#[]⟩, .int .i64 0] 43)).heap[w.heap.size]? = some (.cells #[.int .i64 0, .string ⟨#[]⟩, .slice none 0 0, .string ⟨#[]⟩, .bool false, .string ⟨#[]⟩, .bool false, .string ⟨#[]⟩, .int .i64 0, .bool false, .string ⟨#[]⟩, .bool false, .string ⟨#[]⟩, .int .i64 0] 43 (0, 0)) from heap_alloc_new w _)
  clear hS hnx hmax hK
  subst hq
  have HT := Lib.hid (k_yes (n := 1) HK.out h1 rfl)
  have HNOT := Lib.hid (show (s == notL) = false by rw [← bs_list s]; exact hs)
  have HO1 := Lib.hid ho
  obtain rfl : K = 1 := by simpa using h1
  clear h1 ho
  have HG0 := Lib.hid (show litP N (L.drop nx) = (atomP N (L.drop nx)).map (fun y => ⟨1, y, [], term0, term0⟩) by
    unfold litP
    rw [hp]
    simp only [HT.out, HNOT.out, HO1.out, Bool.not_false, Bool.and_self, Bool.and_false, Bool.false_eq_true, if_false, if_true]
    cases atomP N (L.drop nx) <;> rfl)
  clear hp
  go_enter Tryd.func26, Tryd.ntmps26
  go_wp2_with (first
    | (go_at_call 16; ((with_reducible refine (peekK0_calls 1 k s n false a _ (HS.out _ ((Below.refl _ _).alloc (Nat.le_refl _) _)) HP.out HK.out).mono ?_); rintro e w1 ⟨rfl, hb1⟩; have HG1 := Lib.hid (grown_trans (World.grownBy_alloc w (.cells #[.int .i64 0, .string ⟨#[]⟩, .slice none 0 0, .string ⟨#[]⟩, .bool false, .string ⟨#[]⟩, .bool false, .string ⟨#[]⟩, .int .i64 0, .bool false, .string ⟨#[]⟩, .bool false, .string ⟨#[]⟩, .int .i64 0] 43) (some P)) (grown_below hb1 (some P))); have HR1 := Lib.hid (blk_keep (blk_keep HR0.out (grown_below hb1 none) (by simp)) (World.grownBy_alloc w1 (.cells #[.int .i64 1, .string (bs s), .int .i64 n, .bool false, .int .i64 (a : Int)] 60) none) (by simp)); have HS1 := Lib.hid (HS.out _ (below_then' (below_then' ((Below.refl w.heap.size w).alloc (Nat.le_refl _) _) hb1 (Nat.le_refl _)) ((Below.refl w1.heap.size w1).alloc (Nat.le_refl _) (.cells #[.int .i64 1, .string (bs s), .int .i64 n, .bool false, .int .i64 (a : Int)] 60)) (Nat.le_refl _)));  clear hb1))
    | (go_at_call 32; ((with_reducible refine (operates1_calls false _ HS1.out HO1.out).mono ?_); rintro e w2 ⟨rfl, hb2⟩; have HS2 := Lib.hid (HS1.out.below hb2); have HG2 := Lib.hid (grown_trans HG1.out (grown_trans (World.grownBy_alloc w1 (.cells #[.int .i64 1, .string (bs s), .int .i64 n, .bool false, .int .i64 (a : Int)] 60) (some P)) (grown_below hb2 (some P)))); have HR2 := Lib.hid (blk_keep HR1.out (grown_below hb2 none) (by simp)); clear hb2))
    | (go_at_call 14; ((with_reducible refine (atom_calls _ (po_mk HNX.out HS2.out) HMAX.out).mono ?_); rintro e w3 ⟨hg3, xa, va, rfl, hta, hgot⟩; obtain ⟨A3, c3, rfl⟩ := o_slice hta; have HG3 := Lib.hid (grown_trans HG2.out hg3); have hr3 := blk_keep HR2.out hg3 (by have := HLT.out; simp; omega); have HR3 := Lib.hid hr3; have z_0 := cell_of_row w3 (w.heap.size) 0 _ _ _ hr3; have z_1 := cell_of_row w3 (w.heap.size) 1 _ _ _ hr3; have z_2 := cell_of_row w3 (w.heap.size) 2 _ _ _ hr3; have z_3 := cell_of_row w3 (w.heap.size) 3 _ _ _ hr3; have z_4 := cell_of_row w3 (w.heap.size) 4 _ _ _ hr3; have z_5 := cell_of_row w3 (w.heap.size) 5 _ _ _ hr3; have z_6 := cell_of_row w3 (w.heap.size) 6 _ _ _ hr3; have z_7 := cell_of_row w3 (w.heap.size) 7 _ _ _ hr3; have z_8 := cell_of_row w3 (w.heap.size) 8 _ _ _ hr3; have z_9 := cell_of_row w3 (w.heap.size) 9 _ _ _ hr3; have z_10 := cell_of_row w3 (w.heap.size) 10 _ _ _ hr3; have z_11 := cell_of_row w3 (w.heap.size) 11 _ _ _ hr3; have z_12 := cell_of_row w3 (w.heap.size) 12 _ _ _ hr3; have z_13 := cell_of_row w3 (w.heap.size) 13 _ _ _ hr3; have y_0 := frozen_of_row w3 (w.heap.size) 0 _ _ hr3; have y_1 := frozen_of_row w3 (w.heap.size) 1 _ _ hr3; have y_2 := frozen_of_row w3 (w.heap.size) 2 _ _ hr3; have y_3 := frozen_of_row w3 (w.heap.size) 3 _ _ hr3; have y_4 := frozen_of_row w3 (w.heap.size) 4 _ _ hr3; have y_5 := frozen_of_row w3 (w.heap.size) 5 _ _ hr3; have y_6 := frozen_of_row w3 (w.heap.size) 6 _ _ hr3; have y_7 := frozen_of_row w3 (w.heap.size) 7 _ _ hr3; have y_8 := frozen_of_row w3 (w.heap.size) 8 _ _ hr3; have y_9 := frozen_of_row w3 (w.heap.size) 9 _ _ hr3; have y_10 := frozen_of_row w3 (w.heap.size) 10 _ _ hr3; have y_11 := frozen_of_row w3 (w.heap.size) 11 _ _ hr3; have y_12 := frozen_of_row w3 (w.heap.size) 12 _ _ hr3; have y_13 := frozen_of_row w3 (w.heap.size) 13 _ _ hr3; have HTA := Lib.hid (show TermsAt w.heap.size w3 xa.a (.slice A3 xa.a.length c3) from o_base hta HG2.out.size); have HGOT := Lib.hid hgot; clear hr3 hg3 hta hgot)))
  have hset := litSet_block HR3.out (.int .i64 1) (.string (bs xa.p)) (.slice A3 xa.a.length c3) (.string ⟨#[]⟩) (.bool false) (.string ⟨#[]⟩) (.bool false) (.string ⟨#[]⟩) (.int .i64 0) (.bool false) (.string ⟨#[]⟩) (.bool false) (.string ⟨#[]⟩) (.int .i64 0)
  have q0 := cell_of_row _ _ 0 _ _ _ hset
  have q1 := cell_of_row _ _ 1 _ _ _ hset
  have q2 := cell_of_row _ _ 2 _ _ _ hset
  have q3 := cell_of_row _ _ 3 _ _ _ hset
  have q4 := cell_of_row _ _ 4 _ _ _ hset
  have q5 := cell_of_row _ _ 5 _ _ _ hset
  have q6 := cell_of_row _ _ 6 _ _ _ hset
  have q7 := cell_of_row _ _ 7 _ _ _ hset
  have q8 := cell_of_row _ _ 8 _ _ _ hset
  have q9 := cell_of_row _ _ 9 _ _ _ hset
  have q10 := cell_of_row _ _ 10 _ _ _ hset
  have q11 := cell_of_row _ _ 11 _ _ _ hset
  have q12 := cell_of_row _ _ 12 _ _ _ hset
  have q13 := cell_of_row _ _ 13 _ _ _ hset
  have hsz := HG2.out.size
  have hkT := litSet_self (T := w.heap.size) w3 (.int .i64 1) (.string (bs xa.p)) (.slice A3 xa.a.length c3) (.string ⟨#[]⟩) (.bool false) (.string ⟨#[]⟩) (.bool false) (.string ⟨#[]⟩) (.int .i64 0) (.bool false) (.string ⟨#[]⟩) (.bool false) (.string ⟨#[]⟩) (.int .i64 0)
  refine bodyPost_ret (v := .agg #[.int .i64 1, .string (bs xa.p), .slice A3 xa.a.length c3, .string ⟨#[]⟩, .bool false, .string ⟨#[]⟩, .bool false, .string ⟨#[]⟩, .int .i64 0, .bool false, .string ⟨#[]⟩, .bool false, .string ⟨#[]⟩, .int .i64 0]) (by simp [results, Tryd.results26, go_sem, q0, q1, q2, q3, q4, q5, q6, q7, q8, q9, q10, q11, q12, q13]) rfl ⟨grown_litSet (HG3.out) (Nat.le_refl _) (.int .i64 1) (.string (bs xa.p)) (.slice A3 xa.a.length c3) (.string ⟨#[]⟩) (.bool false) (.string ⟨#[]⟩) (.bool false) (.string ⟨#[]⟩) (.int .i64 0) (.bool false) (.string ⟨#[]⟩) (.bool false) (.string ⟨#[]⟩) (.int .i64 0), ⟨1, xa, [], term0, term0⟩, .slice A3 xa.a.length c3, rfl, HTA.out.kept hkT (fun k hk => by cases hk; exact .inr ⟨_, _, _, HR3.out, by decide⟩), ?_⟩
  rw [HG0.out]
  exact (HGOT.out.map _ (by omega) (fun y hy => by rw [hy])).step hkT (fun k hk => by cases hk; exact ⟨by have := HLT.out; omega, _, _, _, HR3.out, by decide⟩)

end Go.Proofs.YthhfjimhfehimaaDoor.V
