/- (*parser).name, term, arity, mark; (*stream).operates: with the parser's two states. -/
import Derived.Test.YthhfjimhfehimaaDoorPs
namespace Go.Proofs.YthhfjimhfehimaaDoor.V
set_option linter.unusedVariables false
set_option linter.unusedSimpArgs false
open Go.RowKit

theorem takeA_calls {P : Nat} {L : List TP} {N nx : Nat} {pl bad : Int} {A : Option Addr} {c : Nat} (K : Int) (k : Nat) (s : List UInt8) (n : Int) (q : Bool) (a : Nat) (w : World) (h : PS P L N nx pl bad A c w) (hx : nx + 1 ≤ 1000000) (hp : pk N (L.drop nx) 0 = (⟨k, s, n, q⟩, a)) (hK : (k : Int) = K) :
    Calls Tryd.prog 20 #[.pointer (some ⟨P, 0, none⟩)] w fun e w' => e = .returned (.agg #[.int .i64 K, .string (bs s), .int .i64 n, .bool q, .int .i64 (a : Int)]) ∧ PS P L N (nx + 1) pl bad A c w' ∧ w.grownBy w' (some P) := by rw [← hK]; exact take_calls _ a w h hx hp

/-- All is well: what is left is r. -/
def PO (P : Nat) (L : List TP) (N : Nat) (A : Option Addr) (c : Nat) (r : List TP) (W : World) : Prop := ∃ nx, nx ≤ L.length ∧ L.drop nx = r ∧ PS P L N nx 0 0 A c W
/-- Something is wrong. -/
def PB (P : Nat) (L : List TP) (N : Nat) (A : Option Addr) (c : Nat) (a e m : Nat) (W : World) : Prop := e ≠ 0 ∧ ∃ nx, nx ≤ m ∧ PS P L N nx (a : Int) (e : Int) A c W
section
variable {P : Nat} {L : List TP} {N : Nat} {A : Option Addr} {c : Nat} {r : List TP} {W W' : World} {a e m m' : Nat}
theorem PO.below (h : PO P L N A c r W) (hb : Below W.heap.size W W') : PO P L N A c r W' := by
  obtain ⟨nx, h1, h2, h3⟩ := h
  exact ⟨nx, h1, h2, h3.below hb⟩
theorem PB.below (h : PB P L N A c a e m W) (hb : Below W.heap.size W W') : PB P L N A c a e m W' := by
  obtain ⟨h0, nx, h1, h3⟩ := h
  exact ⟨h0, nx, h1, h3.below hb⟩
theorem PB.mono (h : PB P L N A c a e m W) (hm : m ≤ m') : PB P L N A c a e m' W := by
  obtain ⟨h0, nx, h1, h3⟩ := h
  exact ⟨h0, nx, by omega, h3⟩
end
/-- The next token is one: there is another place. -/
theorem next_in {L : List TP} {N nx : Nat} {t : Tok} {a : Nat} (hp : pk N (L.drop nx) 0 = (t, a)) (hk : t.k ≠ 0) : nx < L.length := by
  by_cases h : nx < L.length
  · exact h
  · rw [pk_out (by omega)] at hp
    have : t = (eofT N).1 := by rw [hp]
    exact absurd (by rw [this]; rfl) hk

theorem k_yes {k n : Nat} {K m : Int} (hK : (k : Int) = K) (h : (K == m) = true) (hm : m = (n : Int)) : (k == n) = true := by
  simp at h ⊢
  omega
theorem k_no {k n : Nat} {K m : Int} (hK : (k : Int) = K) (h : (K == m) = false) (hm : m = (n : Int)) : (k == n) = false := by
  simp at h ⊢
  omega
/-- A state behind a step that may fail. -/
def PGot {α : Type} (P : Nat) (L : List TP) (N : Nat) (A : Option Addr) (c m : Nat) (g : Par α) (Q : α → Prop) (W : World) : Prop := match g with
  | .bad a e => PB P L N A c a e m W
  | .ok x r => Q x ∧ PO P L N A c r W

/-- A block of a term's five cells. -/
def IsTrm (T : Nat) (v0 v1 v2 v3 v4 : Value) (w : World) : Prop := w.heap[T]? = some (.cells #[v0, v1, v2, v3, v4] 41 (0, 0))
section
variable {T : Nat} {v0 v1 v2 v3 v4 : Value} {w : World}
theorem IsTrm.c0 (h : IsTrm T v0 v1 v2 v3 v4 w) : w.cell? ⟨T, 0, none⟩ = some v0 := cell_of_row w T 0 _ _ _ h
theorem IsTrm.c1 (h : IsTrm T v0 v1 v2 v3 v4 w) : w.cell? ⟨T, 1, none⟩ = some v1 := cell_of_row w T 1 _ _ _ h
theorem IsTrm.c2 (h : IsTrm T v0 v1 v2 v3 v4 w) : w.cell? ⟨T, 2, none⟩ = some v2 := cell_of_row w T 2 _ _ _ h
theorem IsTrm.c3 (h : IsTrm T v0 v1 v2 v3 v4 w) : w.cell? ⟨T, 3, none⟩ = some v3 := cell_of_row w T 3 _ _ _ h
theorem IsTrm.c4 (h : IsTrm T v0 v1 v2 v3 v4 w) : w.cell? ⟨T, 4, none⟩ = some v4 := cell_of_row w T 4 _ _ _ h
theorem IsTrm.fr (h : IsTrm T v0 v1 v2 v3 v4 w) (i : Nat) : w.frozen? ⟨T, i, none⟩ = false := frozen_of_row w T i _ _ h
theorem IsTrm.new (w : World) : IsTrm w.heap.size v0 v1 v2 v3 v4 (w.alloc (.cells #[v0, v1, v2, v3, v4] 41)) := heap_alloc_new w _
theorem IsTrm.grown {w' : World} {row : Option Nat} (h : IsTrm T v0 v1 v2 v3 v4 w) (hg : w.grownBy w' row) (hne : some T ≠ row) : IsTrm T v0 v1 v2 v3 v4 w' := (hg.block T (Array.getElem?_eq_some_iff.1 h).1 hne).trans h
theorem IsTrm.set {T : Nat} {v0 v1 v2 v3 v4 : Value} {w : World} (h : IsTrm T v0 v1 v2 v3 v4 w) (u0 u1 u2 u3 u4 : Value) : IsTrm T u0 u1 u2 u3 u4 (tokSet T u0 u1 u2 u3 u4 w) :=
  set_block (set_block (set_block (set_block (set_block h u0) u1) u2) u3) u4
end
def termA (x : TermL) : Value := .agg #[.bool x.v, .string (bs x.x), .bool x.s, .string (bs x.t), .int .i64 x.n]

-- THE WALKS
set_option maxRecDepth 100000 in
set_option maxHeartbeats 4000000 in
theorem name_calls {P : Nat} {L : List TP} {N : Nat} {A : Option Addr} {c : Nat} {r : List TP} (w : World) (h : PO P L N A c r w) (hmax : ∀ p ∈ L, p.1.s.length ≤ 65536) :
    Calls Tryd.prog 19 #[.pointer (some ⟨P, 0, none⟩)] w fun e w' => w.grownBy w' (some P) ∧ ∃ x, e = .returned (.string (bs x)) ∧ PGot P L N A c 65537 (nameP N r) (fun y => y = x) w' := by
  obtain ⟨nx, hnx, rfl, hS⟩ := h
  obtain ⟨⟨⟨k, s, n, q⟩, a⟩, hp⟩ : ∃ p, pk N (L.drop nx) 0 = p := ⟨_, rfl⟩
  obtain ⟨K, hK⟩ : ∃ K : Int, (k : Int) = K := ⟨_, rfl⟩
  have HK := Lib.hid hK
  have hn := hS.n
  have HN := Lib.hid hn
  have HNX := Lib.hid hnx
  have HS := Lib.hid (fun W (hb : Below w.heap.size w W) => hS.below hb)
  have HX := Lib.hid (show nx + 1 ≤ 1000000 by omega)
  have HP := Lib.hid hp
  have HM := Lib.hid (show (bs s).size ≤ maxLen by
    have : (bs s).size = s.length := by simp [bs, ByteArray.size]
    rw [this]
    by_cases hin : nx < L.length
    · have hm := List.mem_of_getElem? (pk_in hp hin)
      have := hmax _ hm
      simp at this
      unfold maxLen
      omega
    · rw [pk_out (by omega)] at hp
      have : s = [] := by
        have h2 := congrArg (fun p : TP => p.1.s) hp
        exact h2.symm
      rw [this]
      simp [maxLen])
  clear hS hmax hn hK
  cases hk : (K == 1) with
  | false =>
    have hk' : (K != 1) = true := by simpa using hk
    have HT := Lib.hid (k_no (n := 1) HK.out hk rfl)
    have HG := Lib.hid (show nameP N (L.drop nx) = .bad a 2 by
      unfold nameP
      rw [hp]
      simp only [HT.out, Bool.false_and, Bool.false_eq_true, if_false])
    clear hp hnx
    go_enter Tryd.func19, Tryd.ntmps19
    go_wp2_with (first
      | (go_at_call 20; ((with_reducible refine (takeA_calls K k s n q a _ (HS.out _ (by repeat (first | exact Below.refl _ _ | exact (Below.refl _ _).alloc (Nat.le_refl _) _))) HX.out HP.out HK.out).mono ?_); rintro e w1 ⟨rfl, hs1, hg1⟩; have HS1 := Lib.hid hs1; have HG1 := Lib.hid hg1; have h2 := hs1.below ((Below.refl w1.heap.size w1).alloc (Nat.le_refl _) (.cells #[.int .i64 K, .string (bs s), .int .i64 n, .bool q, .int .i64 (a : Int)] 60)); have HS2 := Lib.hid h2; have HK1 := Lib.hid (IsTok.new (v0 := .int .i64 K) (v1 := .string (bs s)) (v2 := .int .i64 n) (v3 := .bool q) (v4 := .int .i64 (a : Int)) w1); clear hs1 hg1 h2))
      | (go_at_call 15; ((with_reducible refine (fail_ok_calls K (bs s) n q a 2 _ HS2.out).mono ?_); rintro e w2 ⟨rfl, hs2, hg2⟩; have HS3 := Lib.hid hs2; have HG2 := Lib.hid hg2; have hk2 := HK1.out.grown hg2 (by have := HS1.out.lt; simp; omega); have HK2 := Lib.hid hk2; have k1 := hk2.c1; clear hs2 hg2 hk2)))
    go_ret
    refine ⟨grown_trans HG1.out (grown_trans (World.grownBy_alloc _ _ _) HG2.out), s, rfl, ?_⟩
    rw [HG.out]
    exact ⟨by omega, nx + 1, by have := HNX.out; have := HN.out; omega, HS3.out⟩
  | true =>
    have hk' : (K != 1) = false := by simpa using hk
    have HT := Lib.hid (k_yes (n := 1) HK.out hk rfl)
    obtain rfl : K = 1 := by simpa using hk
    clear hk hk'
    cases q with
    | true =>
      have HG := Lib.hid (show nameP N (L.drop nx) = .bad a 2 by
        unfold nameP
        rw [hp]
        simp only [Bool.not_true, Bool.and_false, Bool.false_and, Bool.false_eq_true, if_false])
      clear hp hnx
      go_enter Tryd.func19, Tryd.ntmps19
      go_wp2_with (first
        | (go_at_call 20; ((with_reducible refine (takeA_calls 1 k s n true a _ (HS.out _ (by repeat (first | exact Below.refl _ _ | exact (Below.refl _ _).alloc (Nat.le_refl _) _))) HX.out HP.out HK.out).mono ?_); rintro e w1 ⟨rfl, hs1, hg1⟩; have HS1 := Lib.hid hs1; have HG1 := Lib.hid hg1; have h2 := hs1.below ((Below.refl w1.heap.size w1).alloc (Nat.le_refl _) (.cells #[.int .i64 1, .string (bs s), .int .i64 n, .bool true, .int .i64 (a : Int)] 60)); have HS2 := Lib.hid h2; have HK1 := Lib.hid (IsTok.new (v0 := .int .i64 1) (v1 := .string (bs s)) (v2 := .int .i64 n) (v3 := .bool true) (v4 := .int .i64 (a : Int)) w1); clear hs1 hg1 h2))
        | (go_at_call 15; ((with_reducible refine (fail_ok_calls 1 (bs s) n true a 2 _ HS2.out).mono ?_); rintro e w2 ⟨rfl, hs2, hg2⟩; have HS3 := Lib.hid hs2; have HG2 := Lib.hid hg2; have hk2 := HK1.out.grown hg2 (by have := HS1.out.lt; simp; omega); have HK2 := Lib.hid hk2; have k1 := hk2.c1; clear hs2 hg2 hk2)))
      go_ret
      refine ⟨grown_trans HG1.out (grown_trans (World.grownBy_alloc _ _ _) HG2.out), s, rfl, ?_⟩
      rw [HG.out]
      exact ⟨by omega, nx + 1, by have := HNX.out; have := HN.out; omega, HS3.out⟩
    | false =>
      cases hpl : plainL s with
      | false =>
        have HPL := Lib.hid (show plainL (bs s).data.toList = false from hpl)
        have HG := Lib.hid (show nameP N (L.drop nx) = .bad a 2 by
          unfold nameP
          rw [hp]
          simp only [hpl, Bool.and_false, Bool.false_eq_true, if_false])
        clear hp hnx hpl
        go_enter Tryd.func19, Tryd.ntmps19
        go_wp2_with (first
          | (go_at_call 20; ((with_reducible refine (takeA_calls 1 k s n false a _ (HS.out _ (by repeat (first | exact Below.refl _ _ | exact (Below.refl _ _).alloc (Nat.le_refl _) _))) HX.out HP.out HK.out).mono ?_); rintro e w1 ⟨rfl, hs1, hg1⟩; have HS1 := Lib.hid hs1; have HG1 := Lib.hid hg1; have h2 := hs1.below ((Below.refl w1.heap.size w1).alloc (Nat.le_refl _) (.cells #[.int .i64 1, .string (bs s), .int .i64 n, .bool false, .int .i64 (a : Int)] 60)); have HS2 := Lib.hid h2; have HK1 := Lib.hid (IsTok.new (v0 := .int .i64 1) (v1 := .string (bs s)) (v2 := .int .i64 n) (v3 := .bool false) (v4 := .int .i64 (a : Int)) w1); clear hs1 hg1 h2))
          | (go_at_call 15; ((with_reducible refine (fail_ok_calls 1 (bs s) n false a 2 _ HS4.out).mono ?_); rintro e w2 ⟨rfl, hs2, hg2⟩; have HS3 := Lib.hid hs2; have HG2 := Lib.hid hg2; have hk2 := HK3.out.grown hg2 (by have := HS1.out.lt; simp; omega); have HK2 := Lib.hid hk2; have k1 := hk2.c1; clear hs2 hg2 hk2))
          | (go_at_call 31; ((with_reducible refine (plain_calls _ _ HM.out).mono ?_); rintro e w2 ⟨rfl, hb2⟩; rw [HPL.out]; have hk2 := (HK1.out.grown (grown_below hb2 none) (by simp)); have k0 := hk2.c0; have k1 := hk2.c1; have k2 := hk2.c2; have k3 := hk2.c3; have k4 := hk2.c4; have HB2 := Lib.hid hb2; have HS4 := Lib.hid (HS2.out.below hb2); have HK3 := Lib.hid hk2; clear hb2 hk2)))
        go_ret
        refine ⟨grown_trans HG1.out (grown_trans (World.grownBy_alloc _ _ _) (grown_trans (grown_below HB2.out _) HG2.out)), s, rfl, ?_⟩
        rw [HG.out]
        exact ⟨by omega, nx + 1, by have := HNX.out; have := HN.out; omega, HS3.out⟩
      | true =>
        have HPL := Lib.hid (show plainL (bs s).data.toList = true from hpl)
        have HG := Lib.hid (show nameP N (L.drop nx) = .ok s (L.drop nx).tail by
          unfold nameP
          rw [hp]
          simp only [hpl, HT.out, Bool.not_false, Bool.and_self, if_true])
        have HIN := Lib.hid (next_in hp (by show k ≠ 0; have h1 := HT.out; simp at h1; omega))
        clear hp hnx hpl
        go_enter Tryd.func19, Tryd.ntmps19
        go_wp2_with (first
          | (go_at_call 20; ((with_reducible refine (takeA_calls 1 k s n false a _ (HS.out _ (by repeat (first | exact Below.refl _ _ | exact (Below.refl _ _).alloc (Nat.le_refl _) _))) HX.out HP.out HK.out).mono ?_); rintro e w1 ⟨rfl, hs1, hg1⟩; have HS1 := Lib.hid hs1; have HG1 := Lib.hid hg1; have h2 := hs1.below ((Below.refl w1.heap.size w1).alloc (Nat.le_refl _) (.cells #[.int .i64 1, .string (bs s), .int .i64 n, .bool false, .int .i64 (a : Int)] 60)); have HS2 := Lib.hid h2; have HK1 := Lib.hid (IsTok.new (v0 := .int .i64 1) (v1 := .string (bs s)) (v2 := .int .i64 n) (v3 := .bool false) (v4 := .int .i64 (a : Int)) w1); clear hs1 hg1 h2))
          | (go_at_call 31; ((with_reducible refine (plain_calls _ _ HM.out).mono ?_); rintro e w2 ⟨rfl, hb2⟩; rw [HPL.out]; have hk2 := (HK1.out.grown (grown_below hb2 none) (by simp)); have k0 := hk2.c0; have k1 := hk2.c1; have k2 := hk2.c2; have k3 := hk2.c3; have k4 := hk2.c4; have HB2 := Lib.hid hb2; have HS4 := Lib.hid (HS2.out.below hb2); have HK3 := Lib.hid hk2; clear hb2 hk2)))
        go_ret
        refine ⟨grown_trans HG1.out (grown_trans (World.grownBy_alloc _ _ _) (grown_below HB2.out _)), s, rfl, ?_⟩
        rw [HG.out]
        exact ⟨rfl, nx + 1, HIN.out, by rw [List.tail_drop], HS4.out⟩

set_option maxRecDepth 100000 in
set_option maxHeartbeats 8000000 in
theorem term_calls {P : Nat} {L : List TP} {N : Nat} {A : Option Addr} {c : Nat} {r : List TP} (w : World) (h : PO P L N A c r w) :
    Calls Tryd.prog 28 #[.pointer (some ⟨P, 0, none⟩)] w fun e w' => w.grownBy w' (some P) ∧ ∃ x, e = .returned (termA x) ∧ PGot P L N A c 65537 (termP N r) (fun y => y = x) w' := by
  obtain ⟨nx, hnx, rfl, hS⟩ := h
  obtain ⟨⟨⟨k, s, n, q⟩, a⟩, hp⟩ : ∃ p, pk N (L.drop nx) 0 = p := ⟨_, rfl⟩
  obtain ⟨K, hK⟩ : ∃ K : Int, (k : Int) = K := ⟨_, rfl⟩
  have HK := Lib.hid hK
  have hn := hS.n
  have HN := Lib.hid hn
  have HNX := Lib.hid hnx
  have HS := Lib.hid (fun W (hb : Below w.heap.size w W) => hS.below hb)
  have HX := Lib.hid (show nx + 1 ≤ 1000000 by omega)
  have HP := Lib.hid hp
  have HLT := Lib.hid hS.lt
  have HOLD := Lib.hid (fun T (he : some T = Value.ownBlock (.slice A L.length c)) => hS.old he)
  have HZ := Lib.hid (IsTrm.new (v0 := .bool false) (v1 := .string ⟨#[]⟩) (v2 := .bool false) (v3 := .string ⟨#[]⟩) (v4 := .int .i64 0) w)
  clear hS hn hK
  cases h2 : (K == 2) with
  | true =>
    have HT := Lib.hid (k_yes (n := 2) HK.out h2 rfl)
    obtain rfl : K = 2 := by simpa using h2
    clear h2
    have HG := Lib.hid (show termP N (L.drop nx) = (.ok ⟨true, s, false, [], 0⟩ (L.drop nx).tail) by
      unfold termP
      rw [hp]
      simp only [HT.out, if_true])
    have HIN := Lib.hid (next_in hp (by show k ≠ 0; have h1 := HT.out; simp at h1; omega))
    clear hp hnx
    go_enter Tryd.func28, Tryd.ntmps28
    go_wp2_with (first
      | (go_at_call 20; ((with_reducible refine (takeA_calls 2 k s n q a _ (HS.out _ (by repeat (first | exact Below.refl _ _ | exact (Below.refl _ _).alloc (Nat.le_refl _) _))) HX.out HP.out HK.out).mono ?_); rintro e w1 ⟨rfl, hs1, hg1⟩; have HS1 := Lib.hid hs1; have HG1 := Lib.hid hg1; have h2 := hs1.below ((Below.refl w1.heap.size w1).alloc (Nat.le_refl _) (.cells #[.int .i64 2, .string (bs s), .int .i64 n, .bool q, .int .i64 (a : Int)] 60)); have HS2 := Lib.hid h2; have HK1 := Lib.hid (IsTok.new (v0 := .int .i64 2) (v1 := .string (bs s)) (v2 := .int .i64 n) (v3 := .bool q) (v4 := .int .i64 (a : Int)) w1); have HZ1 := Lib.hid ((HZ.out.grown hg1 (by have := HLT.out; simp; omega)).grown (row := none) (World.grownBy_alloc w1 (.cells #[.int .i64 2, .string (bs s), .int .i64 n, .bool q, .int .i64 (a : Int)] 60) none) (by simp)); have z0 := HZ1.out.c0; have z1 := HZ1.out.c1; have z2 := HZ1.out.c2; have z3 := HZ1.out.c3; have z4 := HZ1.out.c4; have y0 := HZ1.out.fr 0; have y1 := HZ1.out.fr 1; have y2 := HZ1.out.fr 2; have y3 := HZ1.out.fr 3; have y4 := HZ1.out.fr 4; clear hs1 hg1 h2)))
    have hset := HZ1.out.set (.bool true) (.string (bs s)) (.bool false) (.string ⟨#[]⟩) (.int .i64 0)
    have r0 := hset.c0; have r1 := hset.c1; have r2 := hset.c2; have r3 := hset.c3; have r4 := hset.c4
    refine bodyPost_ret (v := .agg #[.bool true, .string (bs s), .bool false, .string ⟨#[]⟩, .int .i64 0]) (by simp [results, Tryd.results28, go_sem, r0, r1, r2, r3, r4]) rfl ⟨grown_tokSet (grown_trans (World.grownBy_alloc _ _ _) (grown_trans HG1.out (grown_trans (World.grownBy_alloc _ _ _) (World.grownBy.refl _ _)))) (Nat.le_refl _) _ _ _ _ _, ⟨true, s, false, [], 0⟩, rfl, ?_⟩
    rw [HG.out]
    exact ⟨rfl, nx + 1, HIN.out, by rw [List.tail_drop], HS2.out.tokSet (by have := HLT.out; omega) (fun he => Nat.lt_irrefl _ (HOLD.out _ he)) _ _ _ _ _⟩
  | false =>
    have HT2 := Lib.hid (k_no (n := 2) HK.out h2 rfl)
    cases h3 : (K == 3) with
    | true =>
      have HT := Lib.hid (k_yes (n := 3) HK.out h3 rfl)
      obtain rfl : K = 3 := by simpa using h3
      clear h2 h3
      have HG := Lib.hid (show termP N (L.drop nx) = (.ok ⟨false, [], false, [], n⟩ (L.drop nx).tail) by
        unfold termP
        rw [hp]
        simp only [HT.out, HT2.out, Bool.false_eq_true, if_false, if_true])
      have HIN := Lib.hid (next_in hp (by show k ≠ 0; have h1 := HT.out; simp at h1; omega))
      clear hp hnx
      go_enter Tryd.func28, Tryd.ntmps28
      go_wp2_with (first
        | (go_at_call 20; ((with_reducible refine (takeA_calls 3 k s n q a _ (HS.out _ (by repeat (first | exact Below.refl _ _ | exact (Below.refl _ _).alloc (Nat.le_refl _) _))) HX.out HP.out HK.out).mono ?_); rintro e w1 ⟨rfl, hs1, hg1⟩; have HS1 := Lib.hid hs1; have HG1 := Lib.hid hg1; have h2 := hs1.below ((Below.refl w1.heap.size w1).alloc (Nat.le_refl _) (.cells #[.int .i64 3, .string (bs s), .int .i64 n, .bool q, .int .i64 (a : Int)] 60)); have HS2 := Lib.hid h2; have HK1 := Lib.hid (IsTok.new (v0 := .int .i64 3) (v1 := .string (bs s)) (v2 := .int .i64 n) (v3 := .bool q) (v4 := .int .i64 (a : Int)) w1); have HZ1 := Lib.hid ((HZ.out.grown hg1 (by have := HLT.out; simp; omega)).grown (row := none) (World.grownBy_alloc w1 (.cells #[.int .i64 3, .string (bs s), .int .i64 n, .bool q, .int .i64 (a : Int)] 60) none) (by simp)); have z0 := HZ1.out.c0; have z1 := HZ1.out.c1; have z2 := HZ1.out.c2; have z3 := HZ1.out.c3; have z4 := HZ1.out.c4; have y0 := HZ1.out.fr 0; have y1 := HZ1.out.fr 1; have y2 := HZ1.out.fr 2; have y3 := HZ1.out.fr 3; have y4 := HZ1.out.fr 4; clear hs1 hg1 h2))
        | (go_at_call 33; ((with_reducible refine (int_calls _ _).mono ?_); rintro e w2 ⟨rfl, hb2⟩; have HZ2 := Lib.hid (HZ1.out.grown (grown_below hb2 none) (by simp)); clear z0 z1 z2 z3 z4 y0 y1 y2 y3 y4; have z0 := HZ2.out.c0; have z1 := HZ2.out.c1; have z2 := HZ2.out.c2; have z3 := HZ2.out.c3; have z4 := HZ2.out.c4; have y0 := HZ2.out.fr 0; have y1 := HZ2.out.fr 1; have y2 := HZ2.out.fr 2; have y3 := HZ2.out.fr 3; have y4 := HZ2.out.fr 4; have HB2 := Lib.hid hb2; have HS4 := Lib.hid (HS2.out.below hb2); clear hb2)))
      have hset := HZ2.out.set (.bool false) (.string ⟨#[]⟩) (.bool false) (.string ⟨#[]⟩) (.int .i64 n)
      have r0 := hset.c0; have r1 := hset.c1; have r2 := hset.c2; have r3 := hset.c3; have r4 := hset.c4
      refine bodyPost_ret (v := .agg #[.bool false, .string ⟨#[]⟩, .bool false, .string ⟨#[]⟩, .int .i64 n]) (by simp [results, Tryd.results28, go_sem, r0, r1, r2, r3, r4]) rfl ⟨grown_tokSet (grown_trans (World.grownBy_alloc _ _ _) (grown_trans HG1.out (grown_trans (World.grownBy_alloc _ _ _) (grown_below HB2.out _)))) (Nat.le_refl _) _ _ _ _ _, ⟨false, [], false, [], n⟩, rfl, ?_⟩
      rw [HG.out]
      exact ⟨rfl, nx + 1, HIN.out, by rw [List.tail_drop], HS4.out.tokSet (by have := HLT.out; omega) (fun he => Nat.lt_irrefl _ (HOLD.out _ he)) _ _ _ _ _⟩
    | false =>
      have HT3 := Lib.hid (k_no (n := 3) HK.out h3 rfl)
      cases h1 : (K == 1) with
      | false =>
        have HT1 := Lib.hid (k_no (n := 1) HK.out h1 rfl)
        have HG := Lib.hid (show termP N (L.drop nx) = (.bad a 2) by
          unfold termP
          rw [hp]
          simp only [HT1.out, HT2.out, HT3.out, Bool.false_and, Bool.false_eq_true, if_false])
        clear hp hnx
        go_enter Tryd.func28, Tryd.ntmps28
        go_wp2_with (first
          | (go_at_call 20; ((with_reducible refine (takeA_calls K k s n q a _ (HS.out _ (by repeat (first | exact Below.refl _ _ | exact (Below.refl _ _).alloc (Nat.le_refl _) _))) HX.out HP.out HK.out).mono ?_); rintro e w1 ⟨rfl, hs1, hg1⟩; have HS1 := Lib.hid hs1; have HG1 := Lib.hid hg1; have h2 := hs1.below ((Below.refl w1.heap.size w1).alloc (Nat.le_refl _) (.cells #[.int .i64 K, .string (bs s), .int .i64 n, .bool q, .int .i64 (a : Int)] 60)); have HS2 := Lib.hid h2; have HK1 := Lib.hid (IsTok.new (v0 := .int .i64 K) (v1 := .string (bs s)) (v2 := .int .i64 n) (v3 := .bool q) (v4 := .int .i64 (a : Int)) w1); have HZ1 := Lib.hid ((HZ.out.grown hg1 (by have := HLT.out; simp; omega)).grown (row := none) (World.grownBy_alloc w1 (.cells #[.int .i64 K, .string (bs s), .int .i64 n, .bool q, .int .i64 (a : Int)] 60) none) (by simp)); have z0 := HZ1.out.c0; have z1 := HZ1.out.c1; have z2 := HZ1.out.c2; have z3 := HZ1.out.c3; have z4 := HZ1.out.c4; have y0 := HZ1.out.fr 0; have y1 := HZ1.out.fr 1; have y2 := HZ1.out.fr 2; have y3 := HZ1.out.fr 3; have y4 := HZ1.out.fr 4; clear hs1 hg1 h2))
          | (go_at_call 15; ((with_reducible refine (fail_ok_calls K (bs s) n q a 2 _ HS2.out).mono ?_); rintro e w2 ⟨rfl, hs2, hg2⟩; have HS3 := Lib.hid hs2; have HG2 := Lib.hid hg2; have hk2 := HK1.out.grown hg2 (by have := HS1.out.lt; simp; omega); have HK2 := Lib.hid hk2; have HZ2 := Lib.hid (HZ1.out.grown hg2 (by have := HLT.out; simp; omega)); clear z0 z1 z2 z3 z4 y0 y1 y2 y3 y4; have z0 := HZ2.out.c0; have z1 := HZ2.out.c1; have z2 := HZ2.out.c2; have z3 := HZ2.out.c3; have z4 := HZ2.out.c4; have y0 := HZ2.out.fr 0; have y1 := HZ2.out.fr 1; have y2 := HZ2.out.fr 2; have y3 := HZ2.out.fr 3; have y4 := HZ2.out.fr 4; clear hs2 hg2 hk2)))
        have hset := HZ2.out.set (.bool false) (.string ⟨#[]⟩) (.bool false) (.string ⟨#[]⟩) (.int .i64 0)
        have r0 := hset.c0; have r1 := hset.c1; have r2 := hset.c2; have r3 := hset.c3; have r4 := hset.c4
        refine bodyPost_ret (v := .agg #[.bool false, .string ⟨#[]⟩, .bool false, .string ⟨#[]⟩, .int .i64 0]) (by simp [results, Tryd.results28, go_sem, r0, r1, r2, r3, r4]) rfl ⟨grown_tokSet (grown_trans (World.grownBy_alloc _ _ _) (grown_trans HG1.out (grown_trans (World.grownBy_alloc _ _ _) HG2.out))) (Nat.le_refl _) _ _ _ _ _, term0, rfl, ?_⟩
        rw [HG.out]
        exact ⟨by omega, nx + 1, by have := HNX.out; have := HN.out; omega, HS3.out.tokSet (by have := HLT.out; omega) (fun he => Nat.lt_irrefl _ (HOLD.out _ he)) _ _ _ _ _⟩
      | true =>
        have HT := Lib.hid (k_yes (n := 1) HK.out h1 rfl)
        obtain rfl : K = 1 := by simpa using h1
        clear h1 h2 h3
        cases q with
        | true =>
          have HG := Lib.hid (show termP N (L.drop nx) = (.ok ⟨false, [], true, s, 0⟩ (L.drop nx).tail) by
            unfold termP
            rw [hp]
            simp only [HT.out, HT2.out, HT3.out, Bool.true_or, Bool.and_self, Bool.false_eq_true, if_false, if_true])
          have HIN := Lib.hid (next_in hp (by show k ≠ 0; have h1 := HT.out; simp at h1; omega))
          clear hp hnx
          go_enter Tryd.func28, Tryd.ntmps28
          go_wp2_with (first
            | (go_at_call 20; ((with_reducible refine (takeA_calls 1 k s n true a _ (HS.out _ (by repeat (first | exact Below.refl _ _ | exact (Below.refl _ _).alloc (Nat.le_refl _) _))) HX.out HP.out HK.out).mono ?_); rintro e w1 ⟨rfl, hs1, hg1⟩; have HS1 := Lib.hid hs1; have HG1 := Lib.hid hg1; have h2 := hs1.below ((Below.refl w1.heap.size w1).alloc (Nat.le_refl _) (.cells #[.int .i64 1, .string (bs s), .int .i64 n, .bool true, .int .i64 (a : Int)] 60)); have HS2 := Lib.hid h2; have HK1 := Lib.hid (IsTok.new (v0 := .int .i64 1) (v1 := .string (bs s)) (v2 := .int .i64 n) (v3 := .bool true) (v4 := .int .i64 (a : Int)) w1); have HZ1 := Lib.hid ((HZ.out.grown hg1 (by have := HLT.out; simp; omega)).grown (row := none) (World.grownBy_alloc w1 (.cells #[.int .i64 1, .string (bs s), .int .i64 n, .bool true, .int .i64 (a : Int)] 60) none) (by simp)); have z0 := HZ1.out.c0; have z1 := HZ1.out.c1; have z2 := HZ1.out.c2; have z3 := HZ1.out.c3; have z4 := HZ1.out.c4; have y0 := HZ1.out.fr 0; have y1 := HZ1.out.fr 1; have y2 := HZ1.out.fr 2; have y3 := HZ1.out.fr 3; have y4 := HZ1.out.fr 4; clear hs1 hg1 h2))
            | (go_at_call 34; ((with_reducible refine (sym_calls _ _).mono ?_); rintro e w2 ⟨rfl, hb2⟩; have HZ2 := Lib.hid (HZ1.out.grown (grown_below hb2 none) (by simp)); clear z0 z1 z2 z3 z4 y0 y1 y2 y3 y4; have z0 := HZ2.out.c0; have z1 := HZ2.out.c1; have z2 := HZ2.out.c2; have z3 := HZ2.out.c3; have z4 := HZ2.out.c4; have y0 := HZ2.out.fr 0; have y1 := HZ2.out.fr 1; have y2 := HZ2.out.fr 2; have y3 := HZ2.out.fr 3; have y4 := HZ2.out.fr 4; have HB2 := Lib.hid hb2; have HS4 := Lib.hid (HS2.out.below hb2); clear hb2)))
          have hset := HZ2.out.set (.bool false) (.string ⟨#[]⟩) (.bool true) (.string (bs s)) (.int .i64 0)
          have r0 := hset.c0; have r1 := hset.c1; have r2 := hset.c2; have r3 := hset.c3; have r4 := hset.c4
          refine bodyPost_ret (v := .agg #[.bool false, .string ⟨#[]⟩, .bool true, .string (bs s), .int .i64 0]) (by simp [results, Tryd.results28, go_sem, r0, r1, r2, r3, r4]) rfl ⟨grown_tokSet (grown_trans (World.grownBy_alloc _ _ _) (grown_trans HG1.out (grown_trans (World.grownBy_alloc _ _ _) (grown_below HB2.out _)))) (Nat.le_refl _) _ _ _ _ _, ⟨false, [], true, s, 0⟩, rfl, ?_⟩
          rw [HG.out]
          exact ⟨rfl, nx + 1, HIN.out, by rw [List.tail_drop], HS4.out.tokSet (by have := HLT.out; omega) (fun he => Nat.lt_irrefl _ (HOLD.out _ he)) _ _ _ _ _⟩
        | false =>
          cases hs : ((bs s).toList == [110, 111, 116]) with
          | true =>
            have HNOT := Lib.hid (show (s == notL) = true by rw [← bs_list s]; exact hs)
            have hs' : ((bs s).toList != [110, 111, 116]) = false := by simpa using hs
            have HG := Lib.hid (show termP N (L.drop nx) = (.bad a 2) by
              unfold termP
              rw [hp]
              simp only [HT.out, HT2.out, HT3.out, HNOT.out, Bool.not_true, Bool.false_or, Bool.and_false, Bool.false_eq_true, if_false])
            clear hp hnx
            go_enter Tryd.func28, Tryd.ntmps28
            go_wp2_with (first
              | (go_at_call 20; ((with_reducible refine (takeA_calls 1 k s n false a _ (HS.out _ (by repeat (first | exact Below.refl _ _ | exact (Below.refl _ _).alloc (Nat.le_refl _) _))) HX.out HP.out HK.out).mono ?_); rintro e w1 ⟨rfl, hs1, hg1⟩; have HS1 := Lib.hid hs1; have HG1 := Lib.hid hg1; have h2 := hs1.below ((Below.refl w1.heap.size w1).alloc (Nat.le_refl _) (.cells #[.int .i64 1, .string (bs s), .int .i64 n, .bool false, .int .i64 (a : Int)] 60)); have HS2 := Lib.hid h2; have HK1 := Lib.hid (IsTok.new (v0 := .int .i64 1) (v1 := .string (bs s)) (v2 := .int .i64 n) (v3 := .bool false) (v4 := .int .i64 (a : Int)) w1); have HZ1 := Lib.hid ((HZ.out.grown hg1 (by have := HLT.out; simp; omega)).grown (row := none) (World.grownBy_alloc w1 (.cells #[.int .i64 1, .string (bs s), .int .i64 n, .bool false, .int .i64 (a : Int)] 60) none) (by simp)); have z0 := HZ1.out.c0; have z1 := HZ1.out.c1; have z2 := HZ1.out.c2; have z3 := HZ1.out.c3; have z4 := HZ1.out.c4; have y0 := HZ1.out.fr 0; have y1 := HZ1.out.fr 1; have y2 := HZ1.out.fr 2; have y3 := HZ1.out.fr 3; have y4 := HZ1.out.fr 4; clear hs1 hg1 h2))
              | (go_at_call 15; ((with_reducible refine (fail_ok_calls 1 (bs s) n false a 2 _ HS2.out).mono ?_); rintro e w2 ⟨rfl, hs2, hg2⟩; have HS3 := Lib.hid hs2; have HG2 := Lib.hid hg2; have hk2 := HK1.out.grown hg2 (by have := HS1.out.lt; simp; omega); have HK2 := Lib.hid hk2; have HZ2 := Lib.hid (HZ1.out.grown hg2 (by have := HLT.out; simp; omega)); clear z0 z1 z2 z3 z4 y0 y1 y2 y3 y4; have z0 := HZ2.out.c0; have z1 := HZ2.out.c1; have z2 := HZ2.out.c2; have z3 := HZ2.out.c3; have z4 := HZ2.out.c4; have y0 := HZ2.out.fr 0; have y1 := HZ2.out.fr 1; have y2 := HZ2.out.fr 2; have y3 := HZ2.out.fr 3; have y4 := HZ2.out.fr 4; clear hs2 hg2 hk2)))
            have hset := HZ2.out.set (.bool false) (.string ⟨#[]⟩) (.bool false) (.string ⟨#[]⟩) (.int .i64 0)
            have r0 := hset.c0; have r1 := hset.c1; have r2 := hset.c2; have r3 := hset.c3; have r4 := hset.c4
            refine bodyPost_ret (v := .agg #[.bool false, .string ⟨#[]⟩, .bool false, .string ⟨#[]⟩, .int .i64 0]) (by simp [results, Tryd.results28, go_sem, r0, r1, r2, r3, r4]) rfl ⟨grown_tokSet (grown_trans (World.grownBy_alloc _ _ _) (grown_trans HG1.out (grown_trans (World.grownBy_alloc _ _ _) HG2.out))) (Nat.le_refl _) _ _ _ _ _, term0, rfl, ?_⟩
            rw [HG.out]
            exact ⟨by omega, nx + 1, by have := HNX.out; have := HN.out; omega, HS3.out.tokSet (by have := HLT.out; omega) (fun he => Nat.lt_irrefl _ (HOLD.out _ he)) _ _ _ _ _⟩
          | false =>
            have HNOT := Lib.hid (show (s == notL) = false by rw [← bs_list s]; exact hs)
            have hs' : ((bs s).toList != [110, 111, 116]) = true := by simpa using hs
            have HG := Lib.hid (show termP N (L.drop nx) = (.ok ⟨false, [], true, s, 0⟩ (L.drop nx).tail) by
              unfold termP
              rw [hp]
              simp only [HT.out, HT2.out, HT3.out, HNOT.out, Bool.not_false, Bool.false_or, Bool.and_self, Bool.false_eq_true, if_false, if_true])
            have HIN := Lib.hid (next_in hp (by show k ≠ 0; have h1 := HT.out; simp at h1; omega))
            clear hp hnx
            go_enter Tryd.func28, Tryd.ntmps28
            go_wp2_with (first
              | (go_at_call 20; ((with_reducible refine (takeA_calls 1 k s n false a _ (HS.out _ (by repeat (first | exact Below.refl _ _ | exact (Below.refl _ _).alloc (Nat.le_refl _) _))) HX.out HP.out HK.out).mono ?_); rintro e w1 ⟨rfl, hs1, hg1⟩; have HS1 := Lib.hid hs1; have HG1 := Lib.hid hg1; have h2 := hs1.below ((Below.refl w1.heap.size w1).alloc (Nat.le_refl _) (.cells #[.int .i64 1, .string (bs s), .int .i64 n, .bool false, .int .i64 (a : Int)] 60)); have HS2 := Lib.hid h2; have HK1 := Lib.hid (IsTok.new (v0 := .int .i64 1) (v1 := .string (bs s)) (v2 := .int .i64 n) (v3 := .bool false) (v4 := .int .i64 (a : Int)) w1); have HZ1 := Lib.hid ((HZ.out.grown hg1 (by have := HLT.out; simp; omega)).grown (row := none) (World.grownBy_alloc w1 (.cells #[.int .i64 1, .string (bs s), .int .i64 n, .bool false, .int .i64 (a : Int)] 60) none) (by simp)); have z0 := HZ1.out.c0; have z1 := HZ1.out.c1; have z2 := HZ1.out.c2; have z3 := HZ1.out.c3; have z4 := HZ1.out.c4; have y0 := HZ1.out.fr 0; have y1 := HZ1.out.fr 1; have y2 := HZ1.out.fr 2; have y3 := HZ1.out.fr 3; have y4 := HZ1.out.fr 4; clear hs1 hg1 h2))
              | (go_at_call 34; ((with_reducible refine (sym_calls _ _).mono ?_); rintro e w2 ⟨rfl, hb2⟩; have HZ2 := Lib.hid (HZ1.out.grown (grown_below hb2 none) (by simp)); clear z0 z1 z2 z3 z4 y0 y1 y2 y3 y4; have z0 := HZ2.out.c0; have z1 := HZ2.out.c1; have z2 := HZ2.out.c2; have z3 := HZ2.out.c3; have z4 := HZ2.out.c4; have y0 := HZ2.out.fr 0; have y1 := HZ2.out.fr 1; have y2 := HZ2.out.fr 2; have y3 := HZ2.out.fr 3; have y4 := HZ2.out.fr 4; have HB2 := Lib.hid hb2; have HS4 := Lib.hid (HS2.out.below hb2); clear hb2)))
            have hset := HZ2.out.set (.bool false) (.string ⟨#[]⟩) (.bool true) (.string (bs s)) (.int .i64 0)
            have r0 := hset.c0; have r1 := hset.c1; have r2 := hset.c2; have r3 := hset.c3; have r4 := hset.c4
            refine bodyPost_ret (v := .agg #[.bool false, .string ⟨#[]⟩, .bool true, .string (bs s), .int .i64 0]) (by simp [results, Tryd.results28, go_sem, r0, r1, r2, r3, r4]) rfl ⟨grown_tokSet (grown_trans (World.grownBy_alloc _ _ _) (grown_trans HG1.out (grown_trans (World.grownBy_alloc _ _ _) (grown_below HB2.out _)))) (Nat.le_refl _) _ _ _ _ _, ⟨false, [], true, s, 0⟩, rfl, ?_⟩
            rw [HG.out]
            exact ⟨rfl, nx + 1, HIN.out, by rw [List.tail_drop], HS4.out.tokSet (by have := HLT.out; omega) (fun he => Nat.lt_irrefl _ (HOLD.out _ he)) _ _ _ _ _⟩
end Go.Proofs.YthhfjimhfehimaaDoor.V
