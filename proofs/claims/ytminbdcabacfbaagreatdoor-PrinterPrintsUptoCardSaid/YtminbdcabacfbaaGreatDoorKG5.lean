/- (*parser).name, term, arity, mark; (*stream).operates: with the parser's two states. (*parser).arity, mark; (*stream).operates. (*parser).some: things with commas between, whatever parses one. (*parser).atom and its closure. -/
import Derived.Deep.AppendLies
import Derived.Deep.RegionLaw
import Derived.Test.YtminbdcabacfbaaGreatDoorKG4
namespace Go.Proofs.YtminbdcabacfbaaGreatDoor.V
set_option linter.unusedVariables false
set_option linter.unusedSimpArgs false
open Go.RowKit

theorem takeA_calls {P : Nat} {L : List TP} {N nx : Nat} {pl bad : Int} {A : Option Addr} {c : Nat} (K : Int) (k : Nat) (s : List UInt8) (n : Int) (q : Bool) (a : Nat) (w : World) (h : PS P L N nx pl bad A c w) (hx : nx + 1 ≤ 1000000) (hp : pk N (L.drop nx) 0 = (⟨k, s, n, q⟩, a)) (hK : (k : Int) = K) :
    Calls Tryz.prog 61 #[.pointer (some ⟨P, 0, none⟩)] w fun e w' => e = .returned (.agg #[.int .i64 K, .string (bs s), .int .i64 n, .bool q, .int .i64 (a : Int)]) ∧ PS P L N (nx + 1) pl bad A c w' ∧ w.grownBy w' (some P) := by rw [← hK]; exact take_calls _ a w h hx hp

/-- All is well: what is left is r. -/
def PO (P : Nat) (L : List TP) (N : Nat) (A : Option Addr) (c : Nat) (r : List TP) (W : World) : Prop := ∃ nx, nx ≤ L.length ∧ L.drop nx = r ∧ PS P L N nx 0 0 A c W
/-- Something is wrong. -/
def PB (P : Nat) (L : List TP) (N : Nat) (A : Option Addr) (c : Nat) (a e m : Nat) (W : World) : Prop := e ≠ 0 ∧ ∃ nx, nx ≤ m ∧ PS P L N nx (a : Int) (e : Int) A c W
section
variable {P : Nat} {L : List TP} {N : Nat} {A : Option Addr} {c : Nat} {r : List TP} {W W' : World} {a e m m' : Nat}
theorem PO.below (h : PO P L N A c r W) (hb : Below W.heap.size W W') : PO P L N A c r W' := by
  obtain ⟨nx, h1, h2, h3⟩ := h
  exact ⟨nx, h1, h2, h3.below hb⟩
theorem PB.below (h : PB P L N A c a e m W) (hb : Below W.heap.size W W') : PB P L N A c a e m W' := by
  obtain ⟨h0, nx, h1, h3⟩ := h
  exact ⟨h0, nx, h1, h3.below hb⟩
theorem PB.mono (h : PB P L N A c a e m W) (hm : m ≤ m') : PB P L N A c a e m' W := by
  obtain ⟨h0, nx, h1, h3⟩ := h
  exact ⟨h0, nx, by omega, h3⟩
end
/-- The next token is one: there is another place. -/
theorem next_in {L : List TP} {N nx : Nat} {t : Tok} {a : Nat} (hp : pk N (L.drop nx) 0 = (t, a)) (hk : t.k ≠ 0) : nx < L.length := by
  by_cases h : nx < L.length
  · exact h
  · rw [pk_out (by omega)] at hp
    have : t = (eofT N).1 := by rw [hp]
    exact absurd (by rw [this]; rfl) hk

theorem k_yes {k n : Nat} {K m : Int} (hK : (k : Int) = K) (h : (K == m) = true) (hm : m = (n : Int)) : (k == n) = true := by
  simp at h ⊢
  omega
theorem k_no {k n : Nat} {K m : Int} (hK : (k : Int) = K) (h : (K == m) = false) (hm : m = (n : Int)) : (k == n) = false := by
  simp at h ⊢
  omega
/-- A state behind a step that may fail. -/
def PGot {α : Type} (P : Nat) (L : List TP) (N : Nat) (A : Option Addr) (c m : Nat) (g : Par α) (Q : α → Prop) (W : World) : Prop := match g with
  | .bad a e => PB P L N A c a e m W
  | .ok x r => Q x ∧ PO P L N A c r W

/-- A block of a term's five cells. -/
def IsTrm (T : Nat) (v0 v1 v2 v3 v4 : Value) (w : World) : Prop := w.heap[T]? = some (.cells #[v0, v1, v2, v3, v4] 45 (0, 0))
section
variable {T : Nat} {v0 v1 v2 v3 v4 : Value} {w : World}
theorem IsTrm.c0 (h : IsTrm T v0 v1 v2 v3 v4 w) : w.cell? ⟨T, 0, none⟩ = some v0 := cell_of_row w T 0 _ _ _ h
theorem IsTrm.c1 (h : IsTrm T v0 v1 v2 v3 v4 w) : w.cell? ⟨T, 1, none⟩ = some v1 := cell_of_row w T 1 _ _ _ h
theorem IsTrm.c2 (h : IsTrm T v0 v1 v2 v3 v4 w) : w.cell? ⟨T, 2, none⟩ = some v2 := cell_of_row w T 2 _ _ _ h
theorem IsTrm.c3 (h : IsTrm T v0 v1 v2 v3 v4 w) : w.cell? ⟨T, 3, none⟩ = some v3 := cell_of_row w T 3 _ _ _ h
theorem IsTrm.c4 (h : IsTrm T v0 v1 v2 v3 v4 w) : w.cell? ⟨T, 4, none⟩ = some v4 := cell_of_row w T 4 _ _ _ h
theorem IsTrm.fr (h : IsTrm T v0 v1 v2 v3 v4 w) (i : Nat) : w.frozen? ⟨T, i, none⟩ = false := frozen_of_row w T i _ _ h
theorem IsTrm.new (w : World) : IsTrm w.heap.size v0 v1 v2 v3 v4 (w.alloc (.cells #[v0, v1, v2, v3, v4] 45)) := heap_alloc_new w _
theorem IsTrm.grown {w' : World} {row : Option Nat} (h : IsTrm T v0 v1 v2 v3 v4 w) (hg : w.grownBy w' row) (hne : some T ≠ row) : IsTrm T v0 v1 v2 v3 v4 w' := (hg.block T (Array.getElem?_eq_some_iff.1 h).1 hne).trans h
theorem IsTrm.set {T : Nat} {v0 v1 v2 v3 v4 : Value} {w : World} (h : IsTrm T v0 v1 v2 v3 v4 w) (u0 u1 u2 u3 u4 : Value) : IsTrm T u0 u1 u2 u3 u4 (tokSet T u0 u1 u2 u3 u4 w) :=
  set_block (set_block (set_block (set_block (set_block h u0) u1) u2) u3) u4
end
def termA (x : TermL) : Value := .agg #[.bool x.v, .string (bs x.x), .bool x.s, .string (bs x.t), .int .i64 x.n]

-- THE WALKS
set_option maxRecDepth 100000 in
set_option maxHeartbeats 4000000 in
theorem name_calls {P : Nat} {L : List TP} {N : Nat} {A : Option Addr} {c : Nat} {r : List TP} (w : World) (h : PO P L N A c r w) (hmax : ∀ p ∈ L, p.1.s.length ≤ 65536) :
    Calls Tryz.prog 59 #[.pointer (some ⟨P, 0, none⟩)] w fun e w' => w.grownBy w' (some P) ∧ ∃ x, e = .returned (.string (bs x)) ∧ PGot P L N A c 65537 (nameP N r) (fun y => y = x) w' := by
  obtain ⟨nx, hnx, rfl, hS⟩ := h
  obtain ⟨⟨⟨k, s, n, q⟩, a⟩, hp⟩ : ∃ p, pk N (L.drop nx) 0 = p := ⟨_, rfl⟩
  obtain ⟨K, hK⟩ : ∃ K : Int, (k : Int) = K := ⟨_, rfl⟩
  have HK := Lib.hid hK
  have hn := hS.n
  have HN := Lib.hid hn
  have HNX := Lib.hid hnx
  have HS := Lib.hid (fun W (hb : Below w.heap.size w W) => hS.below hb)
  have HX := Lib.hid (show nx + 1 ≤ 1000000 by omega)
  have HP := Lib.hid hp
  have HM := Lib.hid (show (bs s).size ≤ maxLen by
    have : (bs s).size = s.length := by simp [bs, ByteArray.size]
    rw [this]
    by_cases hin : nx < L.length
    · have hm := List.mem_of_getElem? (pk_in hp hin)
      have := hmax _ hm
      simp at this
      unfold maxLen
      omega
    · rw [pk_out (by omega)] at hp
      have : s = [] := by
        have h2 := congrArg (fun p : TP => p.1.s) hp
        exact h2.symm
      rw [this]
      simp [maxLen])
  clear hS hmax hn hK
  cases hk : (K == 1) with
  | false =>
    have hk' : (K != 1) = true := by simpa using hk
    have HT := Lib.hid (k_no (n := 1) HK.out hk rfl)
    have HG := Lib.hid (show nameP N (L.drop nx) = .bad a 2 by
      unfold nameP
      rw [hp]
      simp only [HT.out, Bool.false_and, Bool.false_eq_true, if_false])
    clear hp hnx
    go_enter Tryz.func59, Tryz.ntmps59
    go_wp2_with (first
      | (go_at_call 61; ((with_reducible refine (takeA_calls K k s n q a _ (HS.out _ (by repeat (first | exact Below.refl _ _ | exact (Below.refl _ _).alloc (Nat.le_refl _) _))) HX.out HP.out HK.out).mono ?_); rintro e w1 ⟨rfl, hs1, hg1⟩; have HS1 := Lib.hid hs1; have HG1 := Lib.hid hg1; have h2 := hs1.below ((Below.refl w1.heap.size w1).alloc (Nat.le_refl _) (.cells #[.int .i64 K, .string (bs s), .int .i64 n, .bool q, .int .i64 (a : Int)] 71)); have HS2 := Lib.hid h2; have HK1 := Lib.hid (IsTok.new (v0 := .int .i64 K) (v1 := .string (bs s)) (v2 := .int .i64 n) (v3 := .bool q) (v4 := .int .i64 (a : Int)) w1); clear hs1 hg1 h2))
      | (go_at_call 35; ((with_reducible refine (fail_ok_calls K (bs s) n q a 2 _ HS2.out).mono ?_); rintro e w2 ⟨rfl, hs2, hg2⟩; have HS3 := Lib.hid hs2; have HG2 := Lib.hid hg2; have hk2 := HK1.out.grown hg2 (by have := HS1.out.lt; simp; omega); have HK2 := Lib.hid hk2; have k1 := hk2.c1; clear hs2 hg2 hk2)))
    go_ret
    refine ⟨grown_trans HG1.out (grown_trans (World.grownBy_alloc _ _ _) HG2.out), s, rfl, ?_⟩
    rw [HG.out]
    exact ⟨by omega, nx + 1, by have := HNX.out; have := HN.out; omega, HS3.out⟩
  | true =>
    have hk' : (K != 1) = false := by simpa using hk
    have HT := Lib.hid (k_yes (n := 1) HK.out hk rfl)
    obtain rfl : K = 1 := by simpa using hk
    clear hk hk'
    cases q with
    | true =>
      have HG := Lib.hid (show nameP N (L.drop nx) = .bad a 2 by
        unfold nameP
        rw [hp]
        simp only [Bool.not_true, Bool.and_false, Bool.false_and, Bool.false_eq_true, if_false])
      clear hp hnx
      go_enter Tryz.func59, Tryz.ntmps59
      go_wp2_with (first
        | (go_at_call 61; ((with_reducible refine (takeA_calls 1 k s n true a _ (HS.out _ (by repeat (first | exact Below.refl _ _ | exact (Below.refl _ _).alloc (Nat.le_refl _) _))) HX.out HP.out HK.out).mono ?_); rintro e w1 ⟨rfl, hs1, hg1⟩; have HS1 := Lib.hid hs1; have HG1 := Lib.hid hg1; have h2 := hs1.below ((Below.refl w1.heap.size w1).alloc (Nat.le_refl _) (.cells #[.int .i64 1, .string (bs s), .int .i64 n, .bool true, .int .i64 (a : Int)] 71)); have HS2 := Lib.hid h2; have HK1 := Lib.hid (IsTok.new (v0 := .int .i64 1) (v1 := .string (bs s)) (v2 := .int .i64 n) (v3 := .bool true) (v4 := .int .i64 (a : Int)) w1); clear hs1 hg1 h2))
        | (go_at_call 35; ((with_reducible refine (fail_ok_calls 1 (bs s) n true a 2 _ HS2.out).mono ?_); rintro e w2 ⟨rfl, hs2, hg2⟩; have HS3 := Lib.hid hs2; have HG2 := Lib.hid hg2; have hk2 := HK1.out.grown hg2 (by have := HS1.out.lt; simp; omega); have HK2 := Lib.hid hk2; have k1 := hk2.c1; clear hs2 hg2 hk2)))
      go_ret
      refine ⟨grown_trans HG1.out (grown_trans (World.grownBy_alloc _ _ _) HG2.out), s, rfl, ?_⟩
      rw [HG.out]
      exact ⟨by omega, nx + 1, by have := HNX.out; have := HN.out; omega, HS3.out⟩
    | false =>
      cases hpl : plainL s with
      | false =>
        have HPL := Lib.hid (show plainL (bs s).data.toList = false from hpl)
        have HG := Lib.hid (show nameP N (L.drop nx) = .bad a 2 by
          unfold nameP
          rw [hp]
          simp only [hpl, Bool.and_false, Bool.false_eq_true, if_false])
        clear hp hnx hpl
        go_enter Tryz.func59, Tryz.ntmps59
        go_wp2_with (first
          | (go_at_call 61; ((with_reducible refine (takeA_calls 1 k s n false a _ (HS.out _ (by repeat (first | exact Below.refl _ _ | exact (Below.refl _ _).alloc (Nat.le_refl _) _))) HX.out HP.out HK.out).mono ?_); rintro e w1 ⟨rfl, hs1, hg1⟩; have HS1 := Lib.hid hs1; have HG1 := Lib.hid hg1; have h2 := hs1.below ((Below.refl w1.heap.size w1).alloc (Nat.le_refl _) (.cells #[.int .i64 1, .string (bs s), .int .i64 n, .bool false, .int .i64 (a : Int)] 71)); have HS2 := Lib.hid h2; have HK1 := Lib.hid (IsTok.new (v0 := .int .i64 1) (v1 := .string (bs s)) (v2 := .int .i64 n) (v3 := .bool false) (v4 := .int .i64 (a : Int)) w1); clear hs1 hg1 h2))
          | (go_at_call 35; ((with_reducible refine (fail_ok_calls 1 (bs s) n false a 2 _ HS4.out).mono ?_); rintro e w2 ⟨rfl, hs2, hg2⟩; have HS3 := Lib.hid hs2; have HG2 := Lib.hid hg2; have hk2 := HK3.out.grown hg2 (by have := HS1.out.lt; simp; omega); have HK2 := Lib.hid hk2; have k1 := hk2.c1; clear hs2 hg2 hk2))
          | (go_at_call 76; ((with_reducible refine (plain_calls _ _ HM.out).mono ?_); rintro e w2 ⟨rfl, hb2⟩; rw [HPL.out]; have hk2 := (HK1.out.grown (grown_below hb2 none) (by simp)); have k0 := hk2.c0; have k1 := hk2.c1; have k2 := hk2.c2; have k3 := hk2.c3; have k4 := hk2.c4; have HB2 := Lib.hid hb2; have HS4 := Lib.hid (HS2.out.below hb2); have HK3 := Lib.hid hk2; clear hb2 hk2)))
        go_ret
        refine ⟨grown_trans HG1.out (grown_trans (World.grownBy_alloc _ _ _) (grown_trans (grown_below HB2.out _) HG2.out)), s, rfl, ?_⟩
        rw [HG.out]
        exact ⟨by omega, nx + 1, by have := HNX.out; have := HN.out; omega, HS3.out⟩
      | true =>
        have HPL := Lib.hid (show plainL (bs s).data.toList = true from hpl)
        have HG := Lib.hid (show nameP N (L.drop nx) = .ok s (L.drop nx).tail by
          unfold nameP
          rw [hp]
          simp only [hpl, HT.out, Bool.not_false, Bool.and_self, if_true])
        have HIN := Lib.hid (next_in hp (by show k ≠ 0; have h1 := HT.out; simp at h1; omega))
        clear hp hnx hpl
        go_enter Tryz.func59, Tryz.ntmps59
        go_wp2_with (first
          | (go_at_call 61; ((with_reducible refine (takeA_calls 1 k s n false a _ (HS.out _ (by repeat (first | exact Below.refl _ _ | exact (Below.refl _ _).alloc (Nat.le_refl _) _))) HX.out HP.out HK.out).mono ?_); rintro e w1 ⟨rfl, hs1, hg1⟩; have HS1 := Lib.hid hs1; have HG1 := Lib.hid hg1; have h2 := hs1.below ((Below.refl w1.heap.size w1).alloc (Nat.le_refl _) (.cells #[.int .i64 1, .string (bs s), .int .i64 n, .bool false, .int .i64 (a : Int)] 71)); have HS2 := Lib.hid h2; have HK1 := Lib.hid (IsTok.new (v0 := .int .i64 1) (v1 := .string (bs s)) (v2 := .int .i64 n) (v3 := .bool false) (v4 := .int .i64 (a : Int)) w1); clear hs1 hg1 h2))
          | (go_at_call 76; ((with_reducible refine (plain_calls _ _ HM.out).mono ?_); rintro e w2 ⟨rfl, hb2⟩; rw [HPL.out]; have hk2 := (HK1.out.grown (grown_below hb2 none) (by simp)); have k0 := hk2.c0; have k1 := hk2.c1; have k2 := hk2.c2; have k3 := hk2.c3; have k4 := hk2.c4; have HB2 := Lib.hid hb2; have HS4 := Lib.hid (HS2.out.below hb2); have HK3 := Lib.hid hk2; clear hb2 hk2)))
        go_ret
        refine ⟨grown_trans HG1.out (grown_trans (World.grownBy_alloc _ _ _) (grown_below HB2.out _)), s, rfl, ?_⟩
        rw [HG.out]
        exact ⟨rfl, nx + 1, HIN.out, by rw [List.tail_drop], HS4.out⟩

set_option maxRecDepth 100000 in
set_option maxHeartbeats 8000000 in
theorem term_calls {P : Nat} {L : List TP} {N : Nat} {A : Option Addr} {c : Nat} {r : List TP} (w : World) (h : PO P L N A c r w) :
    Calls Tryz.prog 64 #[.pointer (some ⟨P, 0, none⟩)] w fun e w' => w.grownBy w' (some P) ∧ ∃ x, e = .returned (termA x) ∧ PGot P L N A c 65537 (termP N r) (fun y => y = x) w' := by
  obtain ⟨nx, hnx, rfl, hS⟩ := h
  obtain ⟨⟨⟨k, s, n, q⟩, a⟩, hp⟩ : ∃ p, pk N (L.drop nx) 0 = p := ⟨_, rfl⟩
  obtain ⟨K, hK⟩ : ∃ K : Int, (k : Int) = K := ⟨_, rfl⟩
  have HK := Lib.hid hK
  have hn := hS.n
  have HN := Lib.hid hn
  have HNX := Lib.hid hnx
  have HS := Lib.hid (fun W (hb : Below w.heap.size w W) => hS.below hb)
  have HX := Lib.hid (show nx + 1 ≤ 1000000 by omega)
  have HP := Lib.hid hp
  have HLT := Lib.hid hS.lt
  have HOLD := Lib.hid (fun T (he : some T = Value.ownBlock (.slice A L.length c)) => hS.old he)
  have HZ := Lib.hid (IsTrm.new (v0 := .bool false) (v1 := .string ⟨#[]⟩) (v2 := .bool false) (v3 := .string ⟨#[]⟩) (v4 := .int .i64 0) w)
  clear hS hn hK
  cases h2 : (K == 2) with
  | true =>
    have HT := Lib.hid (k_yes (n := 2) HK.out h2 rfl)
    obtain rfl : K = 2 := by simpa using h2
    clear h2
    have HG := Lib.hid (show termP N (L.drop nx) = (.ok ⟨true, s, false, [], 0⟩ (L.drop nx).tail) by
      unfold termP
      rw [hp]
      simp only [HT.out, if_true])
    have HIN := Lib.hid (next_in hp (by show k ≠ 0; have h1 := HT.out; simp at h1; omega))
    clear hp hnx
    go_enter Tryz.func64, Tryz.ntmps64
    go_wp2_with (first
      | (go_at_call 61; ((with_reducible refine (takeA_calls 2 k s n q a _ (HS.out _ (by repeat (first | exact Below.refl _ _ | exact (Below.refl _ _).alloc (Nat.le_refl _) _))) HX.out HP.out HK.out).mono ?_); rintro e w1 ⟨rfl, hs1, hg1⟩; have HS1 := Lib.hid hs1; have HG1 := Lib.hid hg1; have h2 := hs1.below ((Below.refl w1.heap.size w1).alloc (Nat.le_refl _) (.cells #[.int .i64 2, .string (bs s), .int .i64 n, .bool q, .int .i64 (a : Int)] 71)); have HS2 := Lib.hid h2; have HK1 := Lib.hid (IsTok.new (v0 := .int .i64 2) (v1 := .string (bs s)) (v2 := .int .i64 n) (v3 := .bool q) (v4 := .int .i64 (a : Int)) w1); have HZ1 := Lib.hid ((HZ.out.grown hg1 (by have := HLT.out; simp; omega)).grown (row := none) (World.grownBy_alloc w1 (.cells #[.int .i64 2, .string (bs s), .int .i64 n, .bool q, .int .i64 (a : Int)] 71) none) (by simp)); have z0 := HZ1.out.c0; have z1 := HZ1.out.c1; have z2 := HZ1.out.c2; have z3 := HZ1.out.c3; have z4 := HZ1.out.c4; have y0 := HZ1.out.fr 0; have y1 := HZ1.out.fr 1; have y2 := HZ1.out.fr 2; have y3 := HZ1.out.fr 3; have y4 := HZ1.out.fr 4; clear hs1 hg1 h2)))
    have hset := HZ1.out.set (.bool true) (.string (bs s)) (.bool false) (.string ⟨#[]⟩) (.int .i64 0)
    have r0 := hset.c0; have r1 := hset.c1; have r2 := hset.c2; have r3 := hset.c3; have r4 := hset.c4
    refine bodyPost_ret (v := .agg #[.bool true, .string (bs s), .bool false, .string ⟨#[]⟩, .int .i64 0]) (by simp [results, Tryz.results64, go_sem, r0, r1, r2, r3, r4]) rfl ⟨grown_tokSet (grown_trans (World.grownBy_alloc _ _ _) (grown_trans HG1.out (grown_trans (World.grownBy_alloc _ _ _) (World.grownBy.refl _ _)))) (Nat.le_refl _) _ _ _ _ _, ⟨true, s, false, [], 0⟩, rfl, ?_⟩
    rw [HG.out]
    exact ⟨rfl, nx + 1, HIN.out, by rw [List.tail_drop], HS2.out.tokSet (by have := HLT.out; omega) (fun he => Nat.lt_irrefl _ (HOLD.out _ he)) _ _ _ _ _⟩
  | false =>
    have HT2 := Lib.hid (k_no (n := 2) HK.out h2 rfl)
    cases h3 : (K == 3) with
    | true =>
      have HT := Lib.hid (k_yes (n := 3) HK.out h3 rfl)
      obtain rfl : K = 3 := by simpa using h3
      clear h2 h3
      have HG := Lib.hid (show termP N (L.drop nx) = (.ok ⟨false, [], false, [], n⟩ (L.drop nx).tail) by
        unfold termP
        rw [hp]
        simp only [HT.out, HT2.out, Bool.false_eq_true, if_false, if_true])
      have HIN := Lib.hid (next_in hp (by show k ≠ 0; have h1 := HT.out; simp at h1; omega))
      clear hp hnx
      go_enter Tryz.func64, Tryz.ntmps64
      go_wp2_with (first
        | (go_at_call 61; ((with_reducible refine (takeA_calls 3 k s n q a _ (HS.out _ (by repeat (first | exact Below.refl _ _ | exact (Below.refl _ _).alloc (Nat.le_refl _) _))) HX.out HP.out HK.out).mono ?_); rintro e w1 ⟨rfl, hs1, hg1⟩; have HS1 := Lib.hid hs1; have HG1 := Lib.hid hg1; have h2 := hs1.below ((Below.refl w1.heap.size w1).alloc (Nat.le_refl _) (.cells #[.int .i64 3, .string (bs s), .int .i64 n, .bool q, .int .i64 (a : Int)] 71)); have HS2 := Lib.hid h2; have HK1 := Lib.hid (IsTok.new (v0 := .int .i64 3) (v1 := .string (bs s)) (v2 := .int .i64 n) (v3 := .bool q) (v4 := .int .i64 (a : Int)) w1); have HZ1 := Lib.hid ((HZ.out.grown hg1 (by have := HLT.out; simp; omega)).grown (row := none) (World.grownBy_alloc w1 (.cells #[.int .i64 3, .string (bs s), .int .i64 n, .bool q, .int .i64 (a : Int)] 71) none) (by simp)); have z0 := HZ1.out.c0; have z1 := HZ1.out.c1; have z2 := HZ1.out.c2; have z3 := HZ1.out.c3; have z4 := HZ1.out.c4; have y0 := HZ1.out.fr 0; have y1 := HZ1.out.fr 1; have y2 := HZ1.out.fr 2; have y3 := HZ1.out.fr 3; have y4 := HZ1.out.fr 4; clear hs1 hg1 h2))
        | (go_at_call 94; ((with_reducible refine (int_calls _ _).mono ?_); rintro e w2 ⟨rfl, hb2⟩; have HZ2 := Lib.hid (HZ1.out.grown (grown_below hb2 none) (by simp)); clear z0 z1 z2 z3 z4 y0 y1 y2 y3 y4; have z0 := HZ2.out.c0; have z1 := HZ2.out.c1; have z2 := HZ2.out.c2; have z3 := HZ2.out.c3; have z4 := HZ2.out.c4; have y0 := HZ2.out.fr 0; have y1 := HZ2.out.fr 1; have y2 := HZ2.out.fr 2; have y3 := HZ2.out.fr 3; have y4 := HZ2.out.fr 4; have HB2 := Lib.hid hb2; have HS4 := Lib.hid (HS2.out.below hb2); clear hb2)))
      have hset := HZ2.out.set (.bool false) (.string ⟨#[]⟩) (.bool false) (.string ⟨#[]⟩) (.int .i64 n)
      have r0 := hset.c0; have r1 := hset.c1; have r2 := hset.c2; have r3 := hset.c3; have r4 := hset.c4
      refine bodyPost_ret (v := .agg #[.bool false, .string ⟨#[]⟩, .bool false, .string ⟨#[]⟩, .int .i64 n]) (by simp [results, Tryz.results64, go_sem, r0, r1, r2, r3, r4]) rfl ⟨grown_tokSet (grown_trans (World.grownBy_alloc _ _ _) (grown_trans HG1.out (grown_trans (World.grownBy_alloc _ _ _) (grown_below HB2.out _)))) (Nat.le_refl _) _ _ _ _ _, ⟨false, [], false, [], n⟩, rfl, ?_⟩
      rw [HG.out]
      exact ⟨rfl, nx + 1, HIN.out, by rw [List.tail_drop], HS4.out.tokSet (by have := HLT.out; omega) (fun he => Nat.lt_irrefl _ (HOLD.out _ he)) _ _ _ _ _⟩
    | false =>
      have HT3 := Lib.hid (k_no (n := 3) HK.out h3 rfl)
      cases h1 : (K == 1) with
      | false =>
        have HT1 := Lib.hid (k_no (n := 1) HK.out h1 rfl)
        have HG := Lib.hid (show termP N (L.drop nx) = (.bad a 2) by
          unfold termP
          rw [hp]
          simp only [HT1.out, HT2.out, HT3.out, Bool.false_and, Bool.false_eq_true, if_false])
        clear hp hnx
        go_enter Tryz.func64, Tryz.ntmps64
        go_wp2_with (first
          | (go_at_call 61; ((with_reducible refine (takeA_calls K k s n q a _ (HS.out _ (by repeat (first | exact Below.refl _ _ | exact (Below.refl _ _).alloc (Nat.le_refl _) _))) HX.out HP.out HK.out).mono ?_); rintro e w1 ⟨rfl, hs1, hg1⟩; have HS1 := Lib.hid hs1; have HG1 := Lib.hid hg1; have h2 := hs1.below ((Below.refl w1.heap.size w1).alloc (Nat.le_refl _) (.cells #[.int .i64 K, .string (bs s), .int .i64 n, .bool q, .int .i64 (a : Int)] 71)); have HS2 := Lib.hid h2; have HK1 := Lib.hid (IsTok.new (v0 := .int .i64 K) (v1 := .string (bs s)) (v2 := .int .i64 n) (v3 := .bool q) (v4 := .int .i64 (a : Int)) w1); have HZ1 := Lib.hid ((HZ.out.grown hg1 (by have := HLT.out; simp; omega)).grown (row := none) (World.grownBy_alloc w1 (.cells #[.int .i64 K, .string (bs s), .int .i64 n, .bool q, .int .i64 (a : Int)] 71) none) (by simp)); have z0 := HZ1.out.c0; have z1 := HZ1.out.c1; have z2 := HZ1.out.c2; have z3 := HZ1.out.c3; have z4 := HZ1.out.c4; have y0 := HZ1.out.fr 0; have y1 := HZ1.out.fr 1; have y2 := HZ1.out.fr 2; have y3 := HZ1.out.fr 3; have y4 := HZ1.out.fr 4; clear hs1 hg1 h2))
          | (go_at_call 35; ((with_reducible refine (fail_ok_calls K (bs s) n q a 2 _ HS2.out).mono ?_); rintro e w2 ⟨rfl, hs2, hg2⟩; have HS3 := Lib.hid hs2; have HG2 := Lib.hid hg2; have hk2 := HK1.out.grown hg2 (by have := HS1.out.lt; simp; omega); have HK2 := Lib.hid hk2; have HZ2 := Lib.hid (HZ1.out.grown hg2 (by have := HLT.out; simp; omega)); clear z0 z1 z2 z3 z4 y0 y1 y2 y3 y4; have z0 := HZ2.out.c0; have z1 := HZ2.out.c1; have z2 := HZ2.out.c2; have z3 := HZ2.out.c3; have z4 := HZ2.out.c4; have y0 := HZ2.out.fr 0; have y1 := HZ2.out.fr 1; have y2 := HZ2.out.fr 2; have y3 := HZ2.out.fr 3; have y4 := HZ2.out.fr 4; clear hs2 hg2 hk2)))
        have hset := HZ2.out.set (.bool false) (.string ⟨#[]⟩) (.bool false) (.string ⟨#[]⟩) (.int .i64 0)
        have r0 := hset.c0; have r1 := hset.c1; have r2 := hset.c2; have r3 := hset.c3; have r4 := hset.c4
        refine bodyPost_ret (v := .agg #[.bool false, .string ⟨#[]⟩, .bool false, .string ⟨#[]⟩, .int .i64 0]) (by simp [results, Tryz.results64, go_sem, r0, r1, r2, r3, r4]) rfl ⟨grown_tokSet (grown_trans (World.grownBy_alloc _ _ _) (grown_trans HG1.out (grown_trans (World.grownBy_alloc _ _ _) HG2.out))) (Nat.le_refl _) _ _ _ _ _, term0, rfl, ?_⟩
        rw [HG.out]
        exact ⟨by omega, nx + 1, by have := HNX.out; have := HN.out; omega, HS3.out.tokSet (by have := HLT.out; omega) (fun he => Nat.lt_irrefl _ (HOLD.out _ he)) _ _ _ _ _⟩
      | true =>
        have HT := Lib.hid (k_yes (n := 1) HK.out h1 rfl)
        obtain rfl : K = 1 := by simpa using h1
        clear h1 h2 h3
        cases q with
        | true =>
          have HG := Lib.hid (show termP N (L.drop nx) = (.ok ⟨false, [], true, s, 0⟩ (L.drop nx).tail) by
            unfold termP
            rw [hp]
            simp only [HT.out, HT2.out, HT3.out, Bool.true_or, Bool.and_self, Bool.false_eq_true, if_false, if_true])
          have HIN := Lib.hid (next_in hp (by show k ≠ 0; have h1 := HT.out; simp at h1; omega))
          clear hp hnx
          go_enter Tryz.func64, Tryz.ntmps64
          go_wp2_with (first
            | (go_at_call 61; ((with_reducible refine (takeA_calls 1 k s n true a _ (HS.out _ (by repeat (first | exact Below.refl _ _ | exact (Below.refl _ _).alloc (Nat.le_refl _) _))) HX.out HP.out HK.out).mono ?_); rintro e w1 ⟨rfl, hs1, hg1⟩; have HS1 := Lib.hid hs1; have HG1 := Lib.hid hg1; have h2 := hs1.below ((Below.refl w1.heap.size w1).alloc (Nat.le_refl _) (.cells #[.int .i64 1, .string (bs s), .int .i64 n, .bool true, .int .i64 (a : Int)] 71)); have HS2 := Lib.hid h2; have HK1 := Lib.hid (IsTok.new (v0 := .int .i64 1) (v1 := .string (bs s)) (v2 := .int .i64 n) (v3 := .bool true) (v4 := .int .i64 (a : Int)) w1); have HZ1 := Lib.hid ((HZ.out.grown hg1 (by have := HLT.out; simp; omega)).grown (row := none) (World.grownBy_alloc w1 (.cells #[.int .i64 1, .string (bs s), .int .i64 n, .bool true, .int .i64 (a : Int)] 71) none) (by simp)); have z0 := HZ1.out.c0; have z1 := HZ1.out.c1; have z2 := HZ1.out.c2; have z3 := HZ1.out.c3; have z4 := HZ1.out.c4; have y0 := HZ1.out.fr 0; have y1 := HZ1.out.fr 1; have y2 := HZ1.out.fr 2; have y3 := HZ1.out.fr 3; have y4 := HZ1.out.fr 4; clear hs1 hg1 h2))
            | (go_at_call 95; ((with_reducible refine (sym_calls _ _).mono ?_); rintro e w2 ⟨rfl, hb2⟩; have HZ2 := Lib.hid (HZ1.out.grown (grown_below hb2 none) (by simp)); clear z0 z1 z2 z3 z4 y0 y1 y2 y3 y4; have z0 := HZ2.out.c0; have z1 := HZ2.out.c1; have z2 := HZ2.out.c2; have z3 := HZ2.out.c3; have z4 := HZ2.out.c4; have y0 := HZ2.out.fr 0; have y1 := HZ2.out.fr 1; have y2 := HZ2.out.fr 2; have y3 := HZ2.out.fr 3; have y4 := HZ2.out.fr 4; have HB2 := Lib.hid hb2; have HS4 := Lib.hid (HS2.out.below hb2); clear hb2)))
          have hset := HZ2.out.set (.bool false) (.string ⟨#[]⟩) (.bool true) (.string (bs s)) (.int .i64 0)
          have r0 := hset.c0; have r1 := hset.c1; have r2 := hset.c2; have r3 := hset.c3; have r4 := hset.c4
          refine bodyPost_ret (v := .agg #[.bool false, .string ⟨#[]⟩, .bool true, .string (bs s), .int .i64 0]) (by simp [results, Tryz.results64, go_sem, r0, r1, r2, r3, r4]) rfl ⟨grown_tokSet (grown_trans (World.grownBy_alloc _ _ _) (grown_trans HG1.out (grown_trans (World.grownBy_alloc _ _ _) (grown_below HB2.out _)))) (Nat.le_refl _) _ _ _ _ _, ⟨false, [], true, s, 0⟩, rfl, ?_⟩
          rw [HG.out]
          exact ⟨rfl, nx + 1, HIN.out, by rw [List.tail_drop], HS4.out.tokSet (by have := HLT.out; omega) (fun he => Nat.lt_irrefl _ (HOLD.out _ he)) _ _ _ _ _⟩
        | false =>
          cases hs : ((bs s).toList == [110, 111, 116]) with
          | true =>
            have HNOT := Lib.hid (show (s == notL) = true by rw [← bs_list s]; exact hs)
            have hs' : ((bs s).toList != [110, 111, 116]) = false := by simpa using hs
            have HG := Lib.hid (show termP N (L.drop nx) = (.bad a 2) by
              unfold termP
              rw [hp]
              simp only [HT.out, HT2.out, HT3.out, HNOT.out, Bool.not_true, Bool.false_or, Bool.and_false, Bool.false_eq_true, if_false])
            clear hp hnx
            go_enter Tryz.func64, Tryz.ntmps64
            go_wp2_with (first
              | (go_at_call 61; ((with_reducible refine (takeA_calls 1 k s n false a _ (HS.out _ (by repeat (first | exact Below.refl _ _ | exact (Below.refl _ _).alloc (Nat.le_refl _) _))) HX.out HP.out HK.out).mono ?_); rintro e w1 ⟨rfl, hs1, hg1⟩; have HS1 := Lib.hid hs1; have HG1 := Lib.hid hg1; have h2 := hs1.below ((Below.refl w1.heap.size w1).alloc (Nat.le_refl _) (.cells #[.int .i64 1, .string (bs s), .int .i64 n, .bool false, .int .i64 (a : Int)] 71)); have HS2 := Lib.hid h2; have HK1 := Lib.hid (IsTok.new (v0 := .int .i64 1) (v1 := .string (bs s)) (v2 := .int .i64 n) (v3 := .bool false) (v4 := .int .i64 (a : Int)) w1); have HZ1 := Lib.hid ((HZ.out.grown hg1 (by have := HLT.out; simp; omega)).grown (row := none) (World.grownBy_alloc w1 (.cells #[.int .i64 1, .string (bs s), .int .i64 n, .bool false, .int .i64 (a : Int)] 71) none) (by simp)); have z0 := HZ1.out.c0; have z1 := HZ1.out.c1; have z2 := HZ1.out.c2; have z3 := HZ1.out.c3; have z4 := HZ1.out.c4; have y0 := HZ1.out.fr 0; have y1 := HZ1.out.fr 1; have y2 := HZ1.out.fr 2; have y3 := HZ1.out.fr 3; have y4 := HZ1.out.fr 4; clear hs1 hg1 h2))
              | (go_at_call 35; ((with_reducible refine (fail_ok_calls 1 (bs s) n false a 2 _ HS2.out).mono ?_); rintro e w2 ⟨rfl, hs2, hg2⟩; have HS3 := Lib.hid hs2; have HG2 := Lib.hid hg2; have hk2 := HK1.out.grown hg2 (by have := HS1.out.lt; simp; omega); have HK2 := Lib.hid hk2; have HZ2 := Lib.hid (HZ1.out.grown hg2 (by have := HLT.out; simp; omega)); clear z0 z1 z2 z3 z4 y0 y1 y2 y3 y4; have z0 := HZ2.out.c0; have z1 := HZ2.out.c1; have z2 := HZ2.out.c2; have z3 := HZ2.out.c3; have z4 := HZ2.out.c4; have y0 := HZ2.out.fr 0; have y1 := HZ2.out.fr 1; have y2 := HZ2.out.fr 2; have y3 := HZ2.out.fr 3; have y4 := HZ2.out.fr 4; clear hs2 hg2 hk2)))
            have hset := HZ2.out.set (.bool false) (.string ⟨#[]⟩) (.bool false) (.string ⟨#[]⟩) (.int .i64 0)
            have r0 := hset.c0; have r1 := hset.c1; have r2 := hset.c2; have r3 := hset.c3; have r4 := hset.c4
            refine bodyPost_ret (v := .agg #[.bool false, .string ⟨#[]⟩, .bool false, .string ⟨#[]⟩, .int .i64 0]) (by simp [results, Tryz.results64, go_sem, r0, r1, r2, r3, r4]) rfl ⟨grown_tokSet (grown_trans (World.grownBy_alloc _ _ _) (grown_trans HG1.out (grown_trans (World.grownBy_alloc _ _ _) HG2.out))) (Nat.le_refl _) _ _ _ _ _, term0, rfl, ?_⟩
            rw [HG.out]
            exact ⟨by omega, nx + 1, by have := HNX.out; have := HN.out; omega, HS3.out.tokSet (by have := HLT.out; omega) (fun he => Nat.lt_irrefl _ (HOLD.out _ he)) _ _ _ _ _⟩
          | false =>
            have HNOT := Lib.hid (show (s == notL) = false by rw [← bs_list s]; exact hs)
            have hs' : ((bs s).toList != [110, 111, 116]) = true := by simpa using hs
            have HG := Lib.hid (show termP N (L.drop nx) = (.ok ⟨false, [], true, s, 0⟩ (L.drop nx).tail) by
              unfold termP
              rw [hp]
              simp only [HT.out, HT2.out, HT3.out, HNOT.out, Bool.not_false, Bool.false_or, Bool.and_self, Bool.false_eq_true, if_false, if_true])
            have HIN := Lib.hid (next_in hp (by show k ≠ 0; have h1 := HT.out; simp at h1; omega))
            clear hp hnx
            go_enter Tryz.func64, Tryz.ntmps64
            go_wp2_with (first
              | (go_at_call 61; ((with_reducible refine (takeA_calls 1 k s n false a _ (HS.out _ (by repeat (first | exact Below.refl _ _ | exact (Below.refl _ _).alloc (Nat.le_refl _) _))) HX.out HP.out HK.out).mono ?_); rintro e w1 ⟨rfl, hs1, hg1⟩; have HS1 := Lib.hid hs1; have HG1 := Lib.hid hg1; have h2 := hs1.below ((Below.refl w1.heap.size w1).alloc (Nat.le_refl _) (.cells #[.int .i64 1, .string (bs s), .int .i64 n, .bool false, .int .i64 (a : Int)] 71)); have HS2 := Lib.hid h2; have HK1 := Lib.hid (IsTok.new (v0 := .int .i64 1) (v1 := .string (bs s)) (v2 := .int .i64 n) (v3 := .bool false) (v4 := .int .i64 (a : Int)) w1); have HZ1 := Lib.hid ((HZ.out.grown hg1 (by have := HLT.out; simp; omega)).grown (row := none) (World.grownBy_alloc w1 (.cells #[.int .i64 1, .string (bs s), .int .i64 n, .bool false, .int .i64 (a : Int)] 71) none) (by simp)); have z0 := HZ1.out.c0; have z1 := HZ1.out.c1; have z2 := HZ1.out.c2; have z3 := HZ1.out.c3; have z4 := HZ1.out.c4; have y0 := HZ1.out.fr 0; have y1 := HZ1.out.fr 1; have y2 := HZ1.out.fr 2; have y3 := HZ1.out.fr 3; have y4 := HZ1.out.fr 4; clear hs1 hg1 h2))
              | (go_at_call 95; ((with_reducible refine (sym_calls _ _).mono ?_); rintro e w2 ⟨rfl, hb2⟩; have HZ2 := Lib.hid (HZ1.out.grown (grown_below hb2 none) (by simp)); clear z0 z1 z2 z3 z4 y0 y1 y2 y3 y4; have z0 := HZ2.out.c0; have z1 := HZ2.out.c1; have z2 := HZ2.out.c2; have z3 := HZ2.out.c3; have z4 := HZ2.out.c4; have y0 := HZ2.out.fr 0; have y1 := HZ2.out.fr 1; have y2 := HZ2.out.fr 2; have y3 := HZ2.out.fr 3; have y4 := HZ2.out.fr 4; have HB2 := Lib.hid hb2; have HS4 := Lib.hid (HS2.out.below hb2); clear hb2)))
            have hset := HZ2.out.set (.bool false) (.string ⟨#[]⟩) (.bool true) (.string (bs s)) (.int .i64 0)
            have r0 := hset.c0; have r1 := hset.c1; have r2 := hset.c2; have r3 := hset.c3; have r4 := hset.c4
            refine bodyPost_ret (v := .agg #[.bool false, .string ⟨#[]⟩, .bool true, .string (bs s), .int .i64 0]) (by simp [results, Tryz.results64, go_sem, r0, r1, r2, r3, r4]) rfl ⟨grown_tokSet (grown_trans (World.grownBy_alloc _ _ _) (grown_trans HG1.out (grown_trans (World.grownBy_alloc _ _ _) (grown_below HB2.out _)))) (Nat.le_refl _) _ _ _ _ _, ⟨false, [], true, s, 0⟩, rfl, ?_⟩
            rw [HG.out]
            exact ⟨rfl, nx + 1, HIN.out, by rw [List.tail_drop], HS4.out.tokSet (by have := HLT.out; omega) (fun he => Nat.lt_irrefl _ (HOLD.out _ he)) _ _ _ _ _⟩
end Go.Proofs.YtminbdcabacfbaaGreatDoor.V

namespace Go.Proofs.YtminbdcabacfbaaGreatDoor.V
set_option linter.unusedVariables false
set_option linter.unusedSimpArgs false
open Go.RowKit

set_option maxRecDepth 100000 in
set_option maxHeartbeats 4000000 in
theorem arity_calls {P : Nat} {L : List TP} {N : Nat} {A : Option Addr} {c : Nat} {r : List TP} (w : World) (h : PO P L N A c r w) :
    Calls Tryz.prog 86 #[.pointer (some ⟨P, 0, none⟩)] w fun e w' => w.grownBy w' (some P) ∧ ∃ x, e = .returned (.int .i64 x) ∧ PGot P L N A c 65537 (arityP N r) (fun y => y = x) w' := by
  obtain ⟨nx, hnx, rfl, hS⟩ := h
  obtain ⟨⟨⟨k, s, n, q⟩, a⟩, hp⟩ : ∃ p, pk N (L.drop nx) 0 = p := ⟨_, rfl⟩
  obtain ⟨K, hK⟩ : ∃ K : Int, (k : Int) = K := ⟨_, rfl⟩
  have HK := Lib.hid hK
  have hn := hS.n
  have HN := Lib.hid hn
  have HNX := Lib.hid hnx
  have HS := Lib.hid (fun W (hb : Below w.heap.size w W) => hS.below hb)
  have HX := Lib.hid (show nx + 1 ≤ 1000000 by omega)
  have HP := Lib.hid hp
  clear hS hn hK
  cases h3 : (K == 3) with
  | false =>
    have h3' : (K != 3) = true := by simpa using h3
    have HT := Lib.hid (k_no (n := 3) HK.out h3 rfl)
    have HG := Lib.hid (show arityP N (L.drop nx) = (.bad a 2) by
      unfold arityP
      rw [hp]
      simp only [HT.out, Bool.false_eq_true, if_false])
    clear hp hnx
    go_enter Tryz.func86, Tryz.ntmps86
    go_wp2_with (first
      | (go_at_call 61; ((with_reducible refine (takeA_calls K k s n q a _ (HS.out _ (by repeat (first | exact Below.refl _ _ | exact (Below.refl _ _).alloc (Nat.le_refl _) _))) HX.out HP.out HK.out).mono ?_); rintro e w1 ⟨rfl, hs1, hg1⟩; have HS1 := Lib.hid hs1; have HG1 := Lib.hid hg1; have h2 := hs1.below ((Below.refl w1.heap.size w1).alloc (Nat.le_refl _) (.cells #[.int .i64 K, .string (bs s), .int .i64 n, .bool q, .int .i64 (a : Int)] 71)); have HS2 := Lib.hid h2; have HK1 := Lib.hid (IsTok.new (v0 := .int .i64 K) (v1 := .string (bs s)) (v2 := .int .i64 n) (v3 := .bool q) (v4 := .int .i64 (a : Int)) w1); clear hs1 hg1 h2))
      | (go_at_call 35; ((with_reducible refine (fail_ok_calls K (bs s) n q a 2 _ HS2.out).mono ?_); rintro e w2 ⟨rfl, hs2, hg2⟩; have HS3 := Lib.hid hs2; have HG2 := Lib.hid hg2; have hk2 := HK1.out.grown hg2 (by have := HS1.out.lt; simp; omega); have HK2 := Lib.hid hk2; have k2 := hk2.c2; clear hs2 hg2 hk2)))
    go_ret
    refine ⟨grown_trans HG1.out (grown_trans (World.grownBy_alloc _ _ _) HG2.out), n, rfl, ?_⟩
    rw [HG.out]
    exact ⟨by omega, nx + 1, by have := HNX.out; have := HN.out; omega, HS3.out⟩
  | true =>
    have HT := Lib.hid (k_yes (n := 3) HK.out h3 rfl)
    obtain rfl : K = 3 := by simpa using h3
    clear h3
    cases hl : decide (n < 0) with
    | true =>
      have HG := Lib.hid (show arityP N (L.drop nx) = (.bad a 4) by
        unfold arityP
        rw [hp]
        simp only [HT.out, hl, Bool.true_or, if_true])
      clear hp hnx
      go_enter Tryz.func86, Tryz.ntmps86
      go_wp2_with (first
        | (go_at_call 61; ((with_reducible refine (takeA_calls 3 k s n q a _ (HS.out _ (by repeat (first | exact Below.refl _ _ | exact (Below.refl _ _).alloc (Nat.le_refl _) _))) HX.out HP.out HK.out).mono ?_); rintro e w1 ⟨rfl, hs1, hg1⟩; have HS1 := Lib.hid hs1; have HG1 := Lib.hid hg1; have h2 := hs1.below ((Below.refl w1.heap.size w1).alloc (Nat.le_refl _) (.cells #[.int .i64 3, .string (bs s), .int .i64 n, .bool q, .int .i64 (a : Int)] 71)); have HS2 := Lib.hid h2; have HK1 := Lib.hid (IsTok.new (v0 := .int .i64 3) (v1 := .string (bs s)) (v2 := .int .i64 n) (v3 := .bool q) (v4 := .int .i64 (a : Int)) w1); clear hs1 hg1 h2))
        | (go_at_call 35; ((with_reducible refine (fail_ok_calls 3 (bs s) n q a 4 _ HS2.out).mono ?_); rintro e w2 ⟨rfl, hs2, hg2⟩; have HS3 := Lib.hid hs2; have HG2 := Lib.hid hg2; have hk2 := HK1.out.grown hg2 (by have := HS1.out.lt; simp; omega); have HK2 := Lib.hid hk2; have k2 := hk2.c2; clear hs2 hg2 hk2)))
      go_ret
      refine ⟨grown_trans HG1.out (grown_trans (World.grownBy_alloc _ _ _) HG2.out), n, rfl, ?_⟩
      rw [HG.out]
      exact ⟨by omega, nx + 1, by have := HNX.out; have := HN.out; omega, HS3.out⟩
    | false =>
      cases hm : decide (6 < n) with
      | true =>
        have HG := Lib.hid (show arityP N (L.drop nx) = (.bad a 4) by
          unfold arityP
          rw [hp]
          simp only [HT.out, hl, hm, Bool.or_true, if_true])
        clear hp hnx
        go_enter Tryz.func86, Tryz.ntmps86
        go_wp2_with (first
          | (go_at_call 61; ((with_reducible refine (takeA_calls 3 k s n q a _ (HS.out _ (by repeat (first | exact Below.refl _ _ | exact (Below.refl _ _).alloc (Nat.le_refl _) _))) HX.out HP.out HK.out).mono ?_); rintro e w1 ⟨rfl, hs1, hg1⟩; have HS1 := Lib.hid hs1; have HG1 := Lib.hid hg1; have h2 := hs1.below ((Below.refl w1.heap.size w1).alloc (Nat.le_refl _) (.cells #[.int .i64 3, .string (bs s), .int .i64 n, .bool q, .int .i64 (a : Int)] 71)); have HS2 := Lib.hid h2; have HK1 := Lib.hid (IsTok.new (v0 := .int .i64 3) (v1 := .string (bs s)) (v2 := .int .i64 n) (v3 := .bool q) (v4 := .int .i64 (a : Int)) w1); clear hs1 hg1 h2))
          | (go_at_call 35; ((with_reducible refine (fail_ok_calls 3 (bs s) n q a 4 _ HS2.out).mono ?_); rintro e w2 ⟨rfl, hs2, hg2⟩; have HS3 := Lib.hid hs2; have HG2 := Lib.hid hg2; have hk2 := HK1.out.grown hg2 (by have := HS1.out.lt; simp; omega); have HK2 := Lib.hid hk2; have k2 := hk2.c2; clear hs2 hg2 hk2)))
        go_ret
        refine ⟨grown_trans HG1.out (grown_trans (World.grownBy_alloc _ _ _) HG2.out), n, rfl, ?_⟩
        rw [HG.out]
        exact ⟨by omega, nx + 1, by have := HNX.out; have := HN.out; omega, HS3.out⟩
      | false =>
        have HG := Lib.hid (show arityP N (L.drop nx) = (.ok n (L.drop nx).tail) by
          unfold arityP
          rw [hp]
          simp only [HT.out, hl, hm, Bool.or_self, Bool.false_eq_true, if_true, if_false])
        have HIN := Lib.hid (next_in hp (by show k ≠ 0; have h1 := HT.out; simp at h1; omega))
        clear hp hnx
        go_enter Tryz.func86, Tryz.ntmps86
        go_wp2_with (first
          | (go_at_call 61; ((with_reducible refine (takeA_calls 3 k s n q a _ (HS.out _ (by repeat (first | exact Below.refl _ _ | exact (Below.refl _ _).alloc (Nat.le_refl _) _))) HX.out HP.out HK.out).mono ?_); rintro e w1 ⟨rfl, hs1, hg1⟩; have HS1 := Lib.hid hs1; have HG1 := Lib.hid hg1; have h2 := hs1.below ((Below.refl w1.heap.size w1).alloc (Nat.le_refl _) (.cells #[.int .i64 3, .string (bs s), .int .i64 n, .bool q, .int .i64 (a : Int)] 71)); have HS2 := Lib.hid h2; have HK1 := Lib.hid (IsTok.new (v0 := .int .i64 3) (v1 := .string (bs s)) (v2 := .int .i64 n) (v3 := .bool q) (v4 := .int .i64 (a : Int)) w1); clear hs1 hg1 h2)))
        go_ret
        refine ⟨grown_trans HG1.out (World.grownBy_alloc _ _ _), n, rfl, ?_⟩
        rw [HG.out]
        exact ⟨rfl, nx + 1, HIN.out, by rw [List.tail_drop], HS2.out⟩

set_option maxRecDepth 100000 in
set_option maxHeartbeats 4000000 in
theorem mark_ok_calls {P : Nat} {L : List TP} {N : Nat} {A : Option Addr} {c : Nat} {r : List TP} (mb : ByteArray) (w : World) (h : PO P L N A c r w) (hm4 : 4 ≤ 4) :
    Calls Tryz.prog 65 #[.pointer (some ⟨P, 0, none⟩), .string mb] w fun e w' => e = .returned (.tuple #[]) ∧ w.grownBy w' (some P) ∧ PGot P L N A c 65537 (markP N mb.data.toList () r) (fun _ => True) w' := by
  obtain ⟨nx, hnx, rfl, hS⟩ := h
  obtain ⟨⟨⟨k, s, n, q⟩, a⟩, hp⟩ : ∃ p, pk N (L.drop nx) 0 = p := ⟨_, rfl⟩
  have hn := hS.n
  have HN := Lib.hid hn
  have HNX := Lib.hid hnx
  have HS := Lib.hid (fun W (hb : Below w.heap.size w W) => hS.below hb)
  have HX := Lib.hid (show nx + 1 ≤ 1000000 by omega)
  have HP := Lib.hid hp
  clear hS hn
  cases hv : isM N (L.drop nx) 0 mb.data.toList with
  | true =>
    have HV := Lib.hid hv
    have HG := Lib.hid (show markP N mb.data.toList () (L.drop nx) = .ok () (L.drop nx).tail by unfold markP; rw [hv]; rfl)
    have HIN := Lib.hid (next_in hp (by
      unfold isM at hv
      rw [hp] at hv
      simp only [Bool.and_eq_true, beq_iff_eq] at hv
      show k ≠ 0
      have h1 : k = 4 := hv.1
      omega))
    clear hv hp hnx
    go_enter Tryz.func65, Tryz.ntmps65
    go_wp2_with (first
      | (go_at_call 60; ((with_reducible refine (is_calls mb true _ (HS.out _ (Below.refl _ _)) HV.out).mono ?_); rintro e w1 ⟨rfl, hb1⟩; have HS1 := Lib.hid (HS.out _ hb1); have HB1 := Lib.hid hb1; clear hb1))
      | (go_at_call 61; ((with_reducible refine (takeA_calls _ k s n q a _ HS1.out HX.out HP.out rfl).mono ?_); rintro e w4 ⟨rfl, hs4, hg4⟩; have HS4 := Lib.hid hs4; have HG4 := Lib.hid hg4; clear hs4 hg4)))
    go_end0
    refine ⟨rfl, grown_trans (grown_below HB1.out _) HG4.out, ?_⟩
    rw [HG.out]
    exact ⟨trivial, nx + 1, HIN.out, by rw [List.tail_drop], HS4.out⟩
  | false =>
    have HV := Lib.hid hv
    have HG := Lib.hid (show markP N mb.data.toList () (L.drop nx) = .bad a 2 by unfold markP; rw [hv, hp]; rfl)
    clear hv hp hnx
    go_enter Tryz.func65, Tryz.ntmps65
    go_wp2_with (first
      | (go_at_call 60; ((with_reducible refine (is_calls mb false _ (HS.out _ (Below.refl _ _)) HV.out).mono ?_); rintro e w1 ⟨rfl, hb1⟩; have HS1 := Lib.hid (HS.out _ hb1); have HB1 := Lib.hid hb1; clear hb1))
      | (go_at_call 36; ((with_reducible refine (peek0_calls ⟨k, s, n, q⟩ a _ HS1.out HP.out).mono ?_); rintro e w2 ⟨rfl, hb2⟩; have HS2 := Lib.hid (HS1.out.below hb2); have HB2 := Lib.hid hb2; clear hb2))
      | (go_at_call 35; ((with_reducible refine (fail_ok_calls _ (bs s) n q a 2 _ HS2.out).mono ?_); rintro e w3 ⟨rfl, hs3, hg3⟩; have HS3 := Lib.hid hs3; have HG3 := Lib.hid hg3; clear hs3 hg3))
      | (go_at_call 61; ((with_reducible refine (takeA_calls _ k s n q a _ HS3.out HX.out HP.out rfl).mono ?_); rintro e w4 ⟨rfl, hs4, hg4⟩; have HS4 := Lib.hid hs4; have HG4 := Lib.hid hg4; clear hs4 hg4)))
    go_end0
    refine ⟨rfl, grown_trans (grown_below HB1.out _) (grown_trans (grown_below HB2.out _) (grown_trans HG3.out HG4.out)), ?_⟩
    rw [HG.out]
    exact ⟨by omega, nx + 1, by have := HNX.out; have := HN.out; omega, HS4.out⟩

set_option maxRecDepth 100000 in
set_option maxHeartbeats 4000000 in
theorem mark_bad_calls {P : Nat} {L : List TP} {N : Nat} {A : Option Addr} {c a0 e0 m : Nat} (mb : ByteArray) (w : World) (h : PB P L N A c a0 e0 m w) (hm : m + 1 ≤ 1000000) :
    Calls Tryz.prog 65 #[.pointer (some ⟨P, 0, none⟩), .string mb] w fun e w' => e = .returned (.tuple #[]) ∧ w.grownBy w' (some P) ∧ PB P L N A c a0 e0 (m + 1) w' := by
  obtain ⟨he0, nx, hnx, hS⟩ := h
  obtain ⟨⟨⟨k, s, n, q⟩, a⟩, hp⟩ : ∃ p, pk N (L.drop nx) 0 = p := ⟨_, rfl⟩
  have HS := Lib.hid (fun W (hb : Below w.heap.size w W) => hS.below hb)
  have HX := Lib.hid (show nx + 1 ≤ 1000000 by omega)
  have HNX := Lib.hid hnx
  have HP := Lib.hid hp
  have HBB := Lib.hid (show ((e0 : Int) == 0) = false by simp; omega)
  clear hS
  cases hv : isM N (L.drop nx) 0 mb.data.toList with
  | true =>
    have HV := Lib.hid hv
    clear hv hp hnx
    go_enter Tryz.func65, Tryz.ntmps65
    go_wp2_with (first
      | (go_at_call 60; ((with_reducible refine (is_calls mb true _ (HS.out _ (Below.refl _ _)) HV.out).mono ?_); rintro e w1 ⟨rfl, hb1⟩; have HS1 := Lib.hid (HS.out _ hb1); have HB1 := Lib.hid hb1; clear hb1))
      | (go_at_call 61; ((with_reducible refine (takeA_calls _ k s n q a _ HS1.out HX.out HP.out rfl).mono ?_); rintro e w4 ⟨rfl, hs4, hg4⟩; have HS4 := Lib.hid hs4; have HG4 := Lib.hid hg4; clear hs4 hg4)))
    go_end0
    exact ⟨rfl, grown_trans (grown_below HB1.out _) HG4.out, he0, nx + 1, by have := HNX.out; omega, HS4.out⟩
  | false =>
    have HV := Lib.hid hv
    clear hv hp hnx
    go_enter Tryz.func65, Tryz.ntmps65
    go_wp2_with (first
      | (go_at_call 60; ((with_reducible refine (is_calls mb false _ (HS.out _ (Below.refl _ _)) HV.out).mono ?_); rintro e w1 ⟨rfl, hb1⟩; have HS1 := Lib.hid (HS.out _ hb1); have HB1 := Lib.hid hb1; clear hb1))
      | (go_at_call 36; ((with_reducible refine (peek0_calls ⟨k, s, n, q⟩ a _ HS1.out HP.out).mono ?_); rintro e w2 ⟨rfl, hb2⟩; have HS2 := Lib.hid (HS1.out.below hb2); have HB2 := Lib.hid hb2; clear hb2))
      | (go_at_call 35; ((with_reducible refine (fail_bad_calls _ (bs s) n q a 2 _ HS2.out HBB.out).mono ?_); rintro e w3 ⟨rfl, hb3⟩; have HS3 := Lib.hid (HS2.out.below hb3); have HB3 := Lib.hid hb3; clear hb3))
      | (go_at_call 61; ((with_reducible refine (takeA_calls _ k s n q a _ HS3.out HX.out HP.out rfl).mono ?_); rintro e w4 ⟨rfl, hs4, hg4⟩; have HS4 := Lib.hid hs4; have HG4 := Lib.hid hg4; clear hs4 hg4)))
    go_end0
    exact ⟨rfl, grown_trans (grown_below HB1.out _) (grown_trans (grown_below HB2.out _) (grown_trans (grown_below HB3.out _) HG4.out)), he0, nx + 1, by have := HNX.out; omega, HS4.out⟩

def ops6 : List ByteArray := [⟨#[61]⟩, ⟨#[33, 61]⟩, ⟨#[60]⟩, ⟨#[60, 61]⟩, ⟨#[62]⟩, ⟨#[62, 61]⟩]
theorem ops6_has (s : List UInt8) : Lib.containsS (ops6.take 6) (bs s) = opL s := by
  rw [Bool.eq_iff_iff, Lib.containsS_iff]
  unfold ops6 opL
  have e : ∀ l : List UInt8, (bs s = ⟨l.toArray⟩) ↔ (s = l) := fun l => by
    unfold bs
    constructor
    · intro h
      have h2 := congrArg (fun b : ByteArray => b.data.toList) h
      exact h2
    · intro h
      rw [h]
  have e1 := e [61]; have e2 := e [33, 61]; have e3 := e [60]; have e4 := e [60, 61]; have e5 := e [62]; have e6 := e [62, 61]
  simp only [List.take, List.mem_cons, List.not_mem_nil, or_false, Bool.or_eq_true, beq_iff_eq]
  rw [show (bs s = ⟨#[61]⟩) ↔ s = [61] from e1, show (bs s = ⟨#[33, 61]⟩) ↔ s = [33, 61] from e2, show (bs s = ⟨#[60]⟩) ↔ s = [60] from e3, show (bs s = ⟨#[60, 61]⟩) ↔ s = [60, 61] from e4, show (bs s = ⟨#[62]⟩) ↔ s = [62] from e5, show (bs s = ⟨#[62, 61]⟩) ↔ s = [62, 61] from e6]
  simp only [or_assoc]
theorem heap_new2 (w : World) (o p : Obj) : ((w.alloc o).alloc p).heap[w.heap.size + 1]? = some p := by
  have h := heap_alloc_new (w.alloc o) p
  rwa [show (w.alloc o).heap.size = w.heap.size + 1 by simp] at h
theorem contains6_calls (b : Nat) (s : List UInt8) (v : Bool) (w : World) (hb : w.heap[b]? = some (.cells #[.string ⟨#[61]⟩, .string ⟨#[33, 61]⟩, .string ⟨#[60]⟩, .string ⟨#[60, 61]⟩, .string ⟨#[62]⟩, .string ⟨#[62, 61]⟩] 9 (0, 0))) (hv : opL s = v) :
    Calls Tryz.prog 148 #[.slice (some ⟨b, 0, none⟩) 6 6, .string (bs s)] w fun e w' => e = .returned (.bool v) ∧ w' = w := by
  rw [← hv, ← ops6_has]
  refine Tryz.slices_Contains_string b 0 6 6 ops6 (bs s) w (by decide) (by decide) ?_
  intro j hj
  match j, hj with
  | 0, _ => exact cell_of_row w b 0 _ _ _ hb
  | 1, _ => exact cell_of_row w b 1 _ _ _ hb
  | 2, _ => exact cell_of_row w b 2 _ _ _ hb
  | 3, _ => exact cell_of_row w b 3 _ _ _ hb
  | 4, _ => exact cell_of_row w b 4 _ _ _ hb
  | 5, _ => exact cell_of_row w b 5 _ _ _ hb
  | j + 6, hj => exact absurd hj (by simp [ops6])
theorem peekK0_calls {P : Nat} {L : List TP} {N nx : Nat} {pl bad : Int} {A : Option Addr} {c : Nat} (K : Int) (k : Nat) (s : List UInt8) (n : Int) (q : Bool) (a : Nat) (w : World) (h : PS P L N nx pl bad A c w) (hp : pk N (L.drop nx) 0 = (⟨k, s, n, q⟩, a)) (hK : (k : Int) = K) :
    Calls Tryz.prog 36 #[.pointer (some ⟨P, 0, none⟩), .int .i64 0] w fun e w' => e = .returned (.agg #[.int .i64 K, .string (bs s), .int .i64 n, .bool q, .int .i64 (a : Int)]) ∧ Below w.heap.size w w' := by rw [← hK]; exact peek0_calls _ a w h hp
set_option maxRecDepth 100000 in
set_option maxHeartbeats 4000000 in
theorem operates0_calls {P : Nat} {L : List TP} {N nx : Nat} {pl bad : Int} {A : Option Addr} {c : Nat} (v : Bool) (w : World) (h : PS P L N nx pl bad A c w) (hv : isO N (L.drop nx) 0 = v) :
    Calls Tryz.prog 115 #[.pointer (some ⟨P, 0, none⟩), .int .i64 0] w fun e w' => e = .returned (.bool v) ∧ Below w.heap.size w w' := by
  obtain ⟨⟨⟨k, s, n, q⟩, a⟩, hp⟩ : ∃ p, pk N (L.drop nx) 0 = p := ⟨_, rfl⟩
  obtain ⟨K, hK⟩ : ∃ K : Int, (k : Int) = K := ⟨_, rfl⟩
  have HK := Lib.hid hK
  unfold isO at hv
  rw [hp] at hv
  have HS := Lib.hid h
  have HP := Lib.hid hp
  have HV := Lib.hid hv
  clear h hv hp hK
  cases h4 : (K == 4) with
  | false =>
    have HT := Lib.hid (k_no (n := 4) HK.out h4 rfl)
    go_enter Tryz.func115, Tryz.ntmps115
    go_wp2_with (first
      | (go_at_call 36; ((with_reducible refine (peekK0_calls K k s n q a _ HS.out HP.out HK.out).mono ?_); rintro e w1 ⟨rfl, hb1⟩; have HB1 := Lib.hid hb1; clear hb1)))
    go_ret
    exact ⟨by rw [← HV.out, HT.out]; rfl, HB1.out.alloc HB1.out.size _⟩
  | true =>
    have HT := Lib.hid (k_yes (n := 4) HK.out h4 rfl)
    obtain rfl : K = 4 := by simpa using h4
    clear h4
    cases ho : opL s with
    | true =>
      have HO := Lib.hid ho
      go_enter Tryz.func115, Tryz.ntmps115
      go_wp2_with (first
        | (go_at_call 36; ((with_reducible refine (peekK0_calls 4 k s n q a _ HS.out HP.out HK.out).mono ?_); rintro e w1 ⟨rfl, hb1⟩; have HB1 := Lib.hid hb1; clear hb1))
        | (go_at_call 148; ((with_reducible refine (contains6_calls _ s true _ ?_ HO.out).mono ?_); (focus (exact heap_new2 _ _ _)); rintro e w2 ⟨rfl, hw⟩; rw [hw]; clear hw)))
      go_ret
      exact ⟨by rw [← HV.out, HT.out, HO.out]; rfl, (HB1.out.alloc HB1.out.size _).alloc (by have := HB1.out.size; simp; omega) _⟩
    | false =>
      have HO := Lib.hid ho
      go_enter Tryz.func115, Tryz.ntmps115
      go_wp2_with (first
        | (go_at_call 36; ((with_reducible refine (peekK0_calls 4 k s n q a _ HS.out HP.out HK.out).mono ?_); rintro e w1 ⟨rfl, hb1⟩; have HB1 := Lib.hid hb1; clear hb1))
        | (go_at_call 148; ((with_reducible refine (contains6_calls _ s false _ ?_ HO.out).mono ?_); (focus (exact heap_new2 _ _ _)); rintro e w2 ⟨rfl, hw⟩; rw [hw]; clear hw)))
      go_ret
      exact ⟨by rw [← HV.out, HT.out, HO.out]; rfl, (HB1.out.alloc HB1.out.size _).alloc (by have := HB1.out.size; simp; omega) _⟩
theorem peekK1_calls {P : Nat} {L : List TP} {N nx : Nat} {pl bad : Int} {A : Option Addr} {c : Nat} (K : Int) (k : Nat) (s : List UInt8) (n : Int) (q : Bool) (a : Nat) (w : World) (h : PS P L N nx pl bad A c w) (hp : pk N (L.drop nx) 1 = (⟨k, s, n, q⟩, a)) (hK : (k : Int) = K) :
    Calls Tryz.prog 36 #[.pointer (some ⟨P, 0, none⟩), .int .i64 1] w fun e w' => e = .returned (.agg #[.int .i64 K, .string (bs s), .int .i64 n, .bool q, .int .i64 (a : Int)]) ∧ Below w.heap.size w w' := by rw [← hK]; exact peek1_calls _ a w h hp
set_option maxRecDepth 100000 in
set_option maxHeartbeats 4000000 in
theorem operates1_calls {P : Nat} {L : List TP} {N nx : Nat} {pl bad : Int} {A : Option Addr} {c : Nat} (v : Bool) (w : World) (h : PS P L N nx pl bad A c w) (hv : isO N (L.drop nx) 1 = v) :
    Calls Tryz.prog 115 #[.pointer (some ⟨P, 0, none⟩), .int .i64 1] w fun e w' => e = .returned (.bool v) ∧ Below w.heap.size w w' := by
  obtain ⟨⟨⟨k, s, n, q⟩, a⟩, hp⟩ : ∃ p, pk N (L.drop nx) 1 = p := ⟨_, rfl⟩
  obtain ⟨K, hK⟩ : ∃ K : Int, (k : Int) = K := ⟨_, rfl⟩
  have HK := Lib.hid hK
  unfold isO at hv
  rw [hp] at hv
  have HS := Lib.hid h
  have HP := Lib.hid hp
  have HV := Lib.hid hv
  clear h hv hp hK
  cases h4 : (K == 4) with
  | false =>
    have HT := Lib.hid (k_no (n := 4) HK.out h4 rfl)
    go_enter Tryz.func115, Tryz.ntmps115
    go_wp2_with (first
      | (go_at_call 36; ((with_reducible refine (peekK1_calls K k s n q a _ HS.out HP.out HK.out).mono ?_); rintro e w1 ⟨rfl, hb1⟩; have HB1 := Lib.hid hb1; clear hb1)))
    go_ret
    exact ⟨by rw [← HV.out, HT.out]; rfl, HB1.out.alloc HB1.out.size _⟩
  | true =>
    have HT := Lib.hid (k_yes (n := 4) HK.out h4 rfl)
    obtain rfl : K = 4 := by simpa using h4
    clear h4
    cases ho : opL s with
    | true =>
      have HO := Lib.hid ho
      go_enter Tryz.func115, Tryz.ntmps115
      go_wp2_with (first
        | (go_at_call 36; ((with_reducible refine (peekK1_calls 4 k s n q a _ HS.out HP.out HK.out).mono ?_); rintro e w1 ⟨rfl, hb1⟩; have HB1 := Lib.hid hb1; clear hb1))
        | (go_at_call 148; ((with_reducible refine (contains6_calls _ s true _ ?_ HO.out).mono ?_); (focus (exact heap_new2 _ _ _)); rintro e w2 ⟨rfl, hw⟩; rw [hw]; clear hw)))
      go_ret
      exact ⟨by rw [← HV.out, HT.out, HO.out]; rfl, (HB1.out.alloc HB1.out.size _).alloc (by have := HB1.out.size; simp; omega) _⟩
    | false =>
      have HO := Lib.hid ho
      go_enter Tryz.func115, Tryz.ntmps115
      go_wp2_with (first
        | (go_at_call 36; ((with_reducible refine (peekK1_calls 4 k s n q a _ HS.out HP.out HK.out).mono ?_); rintro e w1 ⟨rfl, hb1⟩; have HB1 := Lib.hid hb1; clear hb1))
        | (go_at_call 148; ((with_reducible refine (contains6_calls _ s false _ ?_ HO.out).mono ?_); (focus (exact heap_new2 _ _ _)); rintro e w2 ⟨rfl, hw⟩; rw [hw]; clear hw)))
      go_ret
      exact ⟨by rw [← HV.out, HT.out, HO.out]; rfl, (HB1.out.alloc HB1.out.size _).alloc (by have := HB1.out.size; simp; omega) _⟩
end Go.Proofs.YtminbdcabacfbaaGreatDoor.V

namespace Go.Proofs.YtminbdcabacfbaaGreatDoor.V
set_option linter.unusedVariables false
set_option linter.unusedSimpArgs false
open Go.RowKit

def Par.pre {α : Type} (acc : List α) : Par (List α) → Par (List α)
  | .bad a e => .bad a e
  | .ok xs r => .ok (acc ++ xs) r
theorem pre_nil {α : Type} (p : Par (List α)) : Par.pre [] p = p := by cases p <;> rfl
theorem some_zero {α : Type} (one : List TP → Par α) (N : Nat) (r : List TP) : someP one N 0 r = .bad (pk N r 0).2 4 := rfl
theorem some_bad {α : Type} {one : List TP → Par α} {N m : Nat} {r : List TP} {a e : Nat} (h : one r = .bad a e) : someP one N (m + 1) r = .bad a e := by
  rw [someP, h]
theorem some_last {α : Type} {one : List TP → Par α} {N m : Nat} {r r1 : List TP} {x : α} (h : one r = .ok x r1) (hc : isM N r1 0 [44] = false) : someP one N (m + 1) r = .ok [x] r1 := by
  rw [someP, h]
  simp [hc]
theorem some_more {α : Type} {one : List TP → Par α} {N m : Nat} {r r1 : List TP} {x : α} {acc : List α} (h : one r = .ok x r1) (hc : isM N r1 0 [44] = true) : Par.pre acc (someP one N (m + 1) r) = Par.pre (acc ++ [x]) (someP one N m r1.tail) := by
  rw [someP, h]
  simp only [hc, if_true]
  cases someP one N m r1.tail <;> simp [Par.pre]
theorem comma_in {N : Nat} {L : List TP} {nx : Nat} {mb : List UInt8} (h : isM N (L.drop nx) 0 mb = true) : nx < L.length := by
  unfold isM at h
  simp only [Bool.and_eq_true, beq_iff_eq] at h
  by_cases hl : nx < L.length
  · exact hl
  · rw [pk_out (by omega)] at h
    exact absurd h.1 (by simp [eofT])

set_option maxRecDepth 100000 in
set_option maxHeartbeats 8000000 in
theorem some_calls {α : Type} {P : Nat} {L : List TP} {N : Nat} {A : Option Addr} {c : Nat} (F : Nat) (lb : Array Value) (eF : ∀ args w, (callFunc F args).run Tryz.prog w = .ok (.enter F args) w) (one : List TP → Par α) (J : World → List α → Prop)
    (hJ : ∀ w w' acc, J w acc → w.grownBy w' (some P) → J w' acc) (m : Nat) (hm : m + 1 ≤ 1000000) (hm2 : 65537 ≤ m)
    (hone : ∀ w acc r, acc.length ≤ 100 → PO P L N A c r w → J w acc → Calls Tryz.prog F lb w fun e w' => e = .returned (.tuple #[]) ∧ ∃ x, J w' (acc ++ [x]) ∧ PGot P L N A c m (one r) (fun y => y = x) w')
    (n : Nat) (hn : n ≤ 100) (r : List TP) (w : World) (h : PO P L N A c r w) (hj : J w []) :
    Calls Tryz.prog 62 #[.pointer (some ⟨P, 0, none⟩), .int .i64 (n : Int), .func (.func F) #[] lb] w fun e w' => e = .returned (.tuple #[]) ∧ ∃ acc, J w' acc ∧ PGot P L N A c (m + 1) (someP one N n r) (fun l => l = acc) w' := by
  have HJ := Lib.hid hJ
  have HONE := Lib.hid hone
  have H := Lib.hid h
  have HJ0 := Lib.hid hj
  clear hJ hone h hj
  go_enter Tryz.func62, Tryz.ntmps62
  go_wp2_with fail
  go_loopw [6] (fun v wr => ∃ acc, v = .int .i64 (acc.length : Int) ∧ J wr acc ∧ ((acc.length ≤ n ∧ ∃ r', PO P L N A c r' wr ∧ someP one N n r = Par.pre acc (someP one N (n - acc.length) r')) ∨ (acc.length ≤ n ∧ ∃ a e, PB P L N A c a e (m + 1) wr ∧ someP one N n r = .bad a e))) (fun v _ => n + 1 - (intOf v).toNat)
  case atStart => exact ⟨[], rfl, HJ0.out, .inl ⟨Nat.zero_le _, r, H.out, by rw [pre_nil]; rfl⟩⟩
  case round =>
    obtain ⟨acc, rfl, hj, hst⟩ := hrel
    have HJR := Lib.hid hj
    clear hj
    rcases hst with ⟨hln, r', hpo, heq⟩ | ⟨hln, a, e, hpb, heq⟩
    · obtain ⟨nx, hnx, rfl, hS⟩ := hpo
      have HEQ := Lib.hid heq
      have HS := Lib.hid hS
      have HN := Lib.hid hS.n
      have HNX := Lib.hid hnx
      clear heq hS hnx
      by_cases hlt : acc.length < n
      · have hd : ((acc.length : Int) == (n : Int)) = false := by simp; omega
        cases ho : one (L.drop nx) with
        | bad a e =>
          have HF := Lib.hid (show someP one N n r = .bad a e by
            rw [HEQ.out, show n - acc.length = (n - acc.length - 1) + 1 by omega, some_bad ho]
            rfl)
          have HO := Lib.hid ho
          have HC := Lib.hid (HONE.out wr acc (L.drop nx) (by omega) ⟨nx, HNX.out, rfl, HS.out⟩ HJR.out)
          clear ho
          go_wp2_with (first
            | (go_at_call 33; ((with_reducible refine (pok_calls true _ HS.out rfl).mono ?_); rintro e w1 ⟨rfl, rfl⟩))
            | (go_at_fn F; (refine HC.out.mono ?_); rintro e w1 ⟨rfl, x, hj1, hg1⟩; rw [HO.out] at hg1; obtain ⟨he0, nx1, hnx1, hS1⟩ := hg1; have HE0 := Lib.hid he0; have HJ1 := Lib.hid hj1; have HNX1 := Lib.hid hnx1; have HS1 := Lib.hid hS1; clear he0 hj1 hnx1 hS1; refine RowKit.Hid.out ?_))
          refine Lib.hid ?_
          cases hv : isM N (L.drop nx1) 0 [44] with
          | false =>
            have HV := Lib.hid (show isM N (L.drop nx1) 0 (⟨#[44]⟩ : ByteArray).data.toList = false from hv)
            clear hv
            go_wp2_with (go_at_call 60; ((with_reducible refine (is_calls ⟨#[44]⟩ false _ HS1.out HV.out).mono ?_); rintro e w2 ⟨rfl, hb2⟩; have HS2 := Lib.hid (HS1.out.below hb2); have HB2 := Lib.hid hb2; clear hb2))
            refine bodyPost_ret (results_none rfl _ _ _) rfl ?_
            refine ⟨rfl, acc ++ [x], HJ.out _ _ _ HJ1.out (grown_below HB2.out _), ?_⟩
            rw [HF.out]
            exact ⟨HE0.out, nx1, by have := HNX1.out; omega, HS2.out⟩
          | true =>
            have HV := Lib.hid (show isM N (L.drop nx1) 0 (⟨#[44]⟩ : ByteArray).data.toList = true from hv)
            have HIN := Lib.hid (comma_in hv)
            obtain ⟨⟨⟨k, s, n3, q⟩, a3⟩, hp⟩ : ∃ p, pk N (L.drop nx1) 0 = p := ⟨_, rfl⟩
            have HP := Lib.hid hp
            have HX := Lib.hid (show nx1 + 1 ≤ 1000000 by have := HIN.out; have := HN.out; omega)
            clear hv hp
            go_wp2_with (first
              | (go_at_call 60; ((with_reducible refine (is_calls ⟨#[44]⟩ true _ HS1.out HV.out).mono ?_); rintro e w2 ⟨rfl, hb2⟩; have HS2 := Lib.hid (HS1.out.below hb2); have HB2 := Lib.hid hb2; clear hb2))
              | (go_at_call 61; ((with_reducible refine (takeA_calls _ k s n3 q a3 _ HS2.out HX.out HP.out rfl).mono ?_); rintro e w3 ⟨rfl, hs3, hg3⟩; have HS3 := Lib.hid hs3; have HG3 := Lib.hid hg3; clear hs3 hg3)))
            go_roundw
            case rel => exact ⟨acc ++ [x], by simp, HJ.out _ _ _ HJ1.out (grown_trans (grown_below HB2.out _) HG3.out), .inr ⟨by simp; omega, a, e, ⟨HE0.out, nx1 + 1, by have := HNX1.out; omega, HS3.out⟩, HF.out⟩⟩
            case measure => simp [intOf]; omega
        | ok x0 r1 =>
          have HO := Lib.hid ho
          have HC := Lib.hid (HONE.out wr acc (L.drop nx) (by omega) ⟨nx, HNX.out, rfl, HS.out⟩ HJR.out)
          obtain ⟨⟨⟨k, s, n3, q⟩, a3⟩, hp⟩ : ∃ p, pk N r1 0 = p := ⟨_, rfl⟩
          have HP0 := Lib.hid hp
          clear hp
          cases hv : isM N r1 0 [44] with
          | false =>
            have HF := Lib.hid (show someP one N n r = .ok (acc ++ [x0]) r1 by
              rw [HEQ.out, show n - acc.length = (n - acc.length - 1) + 1 by omega, some_last ho hv]
              rfl)
            have HV0 := Lib.hid hv
            clear ho hv
            go_wp2_with (first
              | (go_at_call 33; ((with_reducible refine (pok_calls true _ HS.out rfl).mono ?_); rintro e w1 ⟨rfl, rfl⟩))
              | (go_at_fn F; (refine HC.out.mono ?_); rintro e w1 ⟨rfl, x, hj1, hg1⟩; rw [HO.out] at hg1; obtain ⟨hxx, nx1, hnx1, hr1, hS1⟩ := hg1; have HXX := Lib.hid hxx; have HJ1 := Lib.hid hj1; have HNX1 := Lib.hid hnx1; have HS1 := Lib.hid hS1; have HR1 := Lib.hid hr1; have HV := Lib.hid (show isM N (L.drop nx1) 0 (⟨#[44]⟩ : ByteArray).data.toList = false by rw [hr1]; exact HV0.out); clear hxx hj1 hnx1 hS1 hr1)
              | (go_at_call 60; ((with_reducible refine (is_calls ⟨#[44]⟩ false _ HS1.out HV.out).mono ?_); rintro e w2 ⟨rfl, hb2⟩; have HS2 := Lib.hid (HS1.out.below hb2); have HB2 := Lib.hid hb2; clear hb2)))
            refine bodyPost_ret (results_none rfl _ _ _) rfl ?_
            refine ⟨rfl, acc ++ [x], HJ.out _ _ _ HJ1.out (grown_below HB2.out _), ?_⟩
            rw [HF.out]
            exact ⟨by rw [HXX.out], nx1, HNX1.out, HR1.out, HS2.out⟩
          | true =>
            have HF := Lib.hid (show someP one N n r = Par.pre (acc ++ [x0]) (someP one N (n - (acc.length + 1)) r1.tail) by
              rw [HEQ.out, show n - acc.length = (n - acc.length - 1) + 1 by omega, some_more ho hv]
              congr 2
              )
            have HV0 := Lib.hid hv
            clear ho hv
            go_wp2_with (first
              | (go_at_call 33; ((with_reducible refine (pok_calls true _ HS.out rfl).mono ?_); rintro e w1 ⟨rfl, rfl⟩))
              | (go_at_fn F; (refine HC.out.mono ?_); rintro e w1 ⟨rfl, x, hj1, hg1⟩; rw [HO.out] at hg1; obtain ⟨hxx, nx1, hnx1, hr1, hS1⟩ := hg1; have HXX := Lib.hid hxx; have HJ1 := Lib.hid hj1; have HS1 := Lib.hid hS1; have HR1 := Lib.hid hr1; have hv1 : isM N (L.drop nx1) 0 [44] = true := (by rw [hr1]; exact HV0.out); have HV := Lib.hid (show isM N (L.drop nx1) 0 (⟨#[44]⟩ : ByteArray).data.toList = true from hv1); have HIN := Lib.hid (comma_in hv1); have HX := Lib.hid (show nx1 + 1 ≤ 1000000 by have := HIN.out; have := HN.out; omega); have HP := Lib.hid (show pk N (L.drop nx1) 0 = (⟨k, s, n3, q⟩, a3) by rw [hr1]; exact HP0.out); clear hxx hj1 hnx1 hS1 hr1 hv1)
              | (go_at_call 60; ((with_reducible refine (is_calls ⟨#[44]⟩ true _ HS1.out HV.out).mono ?_); rintro e w2 ⟨rfl, hb2⟩; have HS2 := Lib.hid (HS1.out.below hb2); have HB2 := Lib.hid hb2; clear hb2))
              | (go_at_call 61; ((with_reducible refine (takeA_calls _ k s n3 q a3 _ HS2.out HX.out HP.out rfl).mono ?_); rintro e w3 ⟨rfl, hs3, hg3⟩; have HS3 := Lib.hid hs3; have HG3 := Lib.hid hg3; clear hs3 hg3)))
            go_roundw
            case rel => exact ⟨acc ++ [x], by simp, HJ.out _ _ _ HJ1.out (grown_trans (grown_below HB2.out _) HG3.out), .inl ⟨by simp; omega, r1.tail, ⟨nx1 + 1, HIN.out, by rw [← HR1.out, List.tail_drop], HS3.out⟩, by rw [HF.out, HXX.out, List.length_append, List.length_singleton]⟩⟩
            case measure => simp [intOf]; omega
      · have hd : ((acc.length : Int) == (n : Int)) = true := by simp; omega
        obtain ⟨⟨⟨k, s, n3, q⟩, a3⟩, hp⟩ : ∃ p, pk N (L.drop nx) 0 = p := ⟨_, rfl⟩
        have HP := Lib.hid hp
        have HF := Lib.hid (show someP one N n r = .bad a3 4 by
          rw [HEQ.out, show n - acc.length = 0 by omega, some_zero, hp]
          rfl)
        clear hp
        go_wp2_with (first
          | (go_at_call 33; ((with_reducible refine (pok_calls true _ HS.out rfl).mono ?_); rintro e w1 ⟨rfl, rfl⟩))
          | (go_at_call 36; ((with_reducible refine (peek0_calls ⟨k, s, n3, q⟩ a3 _ HS.out HP.out).mono ?_); rintro e w2 ⟨rfl, hb2⟩; have HS2 := Lib.hid (HS.out.below hb2); have HB2 := Lib.hid hb2; clear hb2))
          | (go_at_call 35; ((with_reducible refine (fail_ok_calls _ (bs s) n3 q a3 4 _ HS2.out).mono ?_); rintro e w3 ⟨rfl, hs3, hg3⟩; have HS3 := Lib.hid hs3; have HG3 := Lib.hid hg3; clear hs3 hg3)))
        refine bodyPost_ret (results_none rfl _ _ _) rfl ?_
        refine ⟨rfl, acc, HJ.out _ _ _ HJR.out (grown_trans (grown_below HB2.out _) HG3.out), ?_⟩
        rw [HF.out]
        exact ⟨by omega, nx, by have := HNX.out; have := HN.out; omega, HS3.out⟩
    · obtain ⟨he0, nx, hnx, hS⟩ := hpb
      have HS := Lib.hid hS
      have HF := Lib.hid heq
      have HE0 := Lib.hid he0
      have HNX := Lib.hid hnx
      have HBB := Lib.hid (show ((e : Int) == 0) = false by simp; omega)
      clear hS heq he0 hnx
      go_wp2_with (first
        | (go_at_call 33; ((with_reducible refine (pok_calls false _ HS.out HBB.out).mono ?_); rintro e w1 ⟨rfl, rfl⟩)))
      go_end0
      refine ⟨rfl, acc, HJR.out, ?_⟩
      rw [HF.out]
      exact ⟨HE0.out, nx, HNX.out, HS.out⟩
theorem someI_calls {α : Type} {P : Nat} {L : List TP} {N : Nat} {A : Option Addr} {c : Nat} (F : Nat) (lb : Array Value) (eF : ∀ args w, (callFunc F args).run Tryz.prog w = .ok (.enter F args) w) (one : List TP → Par α) (J : World → List α → Prop)
    (hJ : ∀ w w' acc, J w acc → w.grownBy w' (some P) → J w' acc) (m : Nat) (hm : m + 1 ≤ 1000000) (hm2 : 65537 ≤ m)
    (hone : ∀ w acc r, acc.length ≤ 100 → PO P L N A c r w → J w acc → Calls Tryz.prog F lb w fun e w' => e = .returned (.tuple #[]) ∧ ∃ x, J w' (acc ++ [x]) ∧ PGot P L N A c m (one r) (fun y => y = x) w')
    (n : Nat) (nI : Int) (hI : (n : Int) = nI) (hn : n ≤ 100) (r : List TP) (w : World) (h : PO P L N A c r w) (hj : J w []) :
    Calls Tryz.prog 62 #[.pointer (some ⟨P, 0, none⟩), .int .i64 nI, .func (.func F) #[] lb] w fun e w' => e = .returned (.tuple #[]) ∧ ∃ acc, J w' acc ∧ PGot P L N A c (m + 1) (someP one N n r) (fun l => l = acc) w' := by
  rw [← hI]
  exact some_calls F lb eF one J hJ m hm hm2 hone n hn r w h hj
end Go.Proofs.YtminbdcabacfbaaGreatDoor.V

namespace Go.Proofs.YtminbdcabacfbaaGreatDoor.V
set_option linter.unusedVariables false
set_option linter.unusedSimpArgs false
open Go.RowKit

def termC (x : TermL) : List Value := [.bool x.v, .string (bs x.x), .bool x.s, .string (bs x.t), .int .i64 x.n]
def termCells (l : List TermL) : List Value := l.flatMap termC
theorem termCells_snoc (l : List TermL) (x : TermL) : termCells (l ++ [x]) = termCells l ++ termC x := by simp [termCells]
theorem trm_info : (Tryz.prog.info? 45).map (fun i => (i.zero, i.size, i.bytes)) = some (some (.agg #[.bool false, .string ⟨#[]⟩, .bool false, .string ⟨#[]⟩, .int .i64 0]), 5, 56) := by kernel_rfl

theorem o_ne {W : World} {B e z n g t : Nat} {v : Value} {xs : List Value} {C : Array Value} {m : Nat × Nat} (h : W.ownsRow B e z v n xs) (hg : W.heap[g]? = some (.cells C t m)) (ht : e ≠ t) : some g ≠ v.ownBlock := by
  rcases h.2 with ⟨rfl, _⟩ | ⟨g', cap, cur, rfl, _, hk, _⟩
  · simp [Value.ownBlock]
  · intro he
    obtain rfl : g = g' := Option.some.inj he
    rw [hk] at hg
    injection hg with hg
    injection hg with _ h2 _
    exact ht h2
theorem o_block {W : World} {B e z n : Nat} {v : Value} {xs : List Value} (h : W.ownsRow B e z v n xs) : ∀ k, v.ownBlock = some k → ∃ C t m, W.heap[k]? = some (.cells C t m) ∧ t = e := by
  intro k hk
  rcases h.2 with ⟨rfl, _⟩ | ⟨g', cap, cur, rfl, _, hg, _⟩
  · cases hk
  · obtain rfl : g' = k := Option.some.inj hk
    exact ⟨_, _, _, hg, rfl⟩
section
variable {P : Nat} {L : List TP} {N : Nat} {A : Option Addr} {c : Nat} {r : List TP} {W W' : World} {a e m : Nat} {row : Option Nat}
theorem PS.grown' {nx : Nat} {pl bad : Int} (h : PS P L N nx pl bad A c W) (hg : W.grownBy W' row) (h1 : some P ≠ row) (h2 : ∀ k, Value.ownBlock (.slice A L.length c) = some k → some k ≠ row) : PS P L N nx pl bad A c W' := by
  refine ⟨(hg.block P h.lt h1).trans h.b, h.o.kept hg ?_, h.n, h.s, h.x⟩
  cases hv : Value.ownBlock (.slice A L.length c) with
  | none => exact .inl rfl
  | some k => exact .inr (h2 k hv)
theorem PS.step {nx : Nat} {pl bad : Int} (h : PS P L N nx pl bad A c W) (hg : W.grownBy W' row) (hr : ∀ k, row = some k → k ≠ P ∧ ∃ C t m, W.heap[k]? = some (.cells C t m) ∧ t ≠ 71) : PS P L N nx pl bad A c W' := by
  refine h.grown' hg ?_ ?_
  · intro he
    exact (hr P he.symm).1 rfl
  · intro k hv he
    obtain ⟨_, C, t, m, hc, ht⟩ := hr k he.symm
    obtain ⟨C', t', m', hc', ht'⟩ := o_block h.o k hv
    rw [hc] at hc'
    injection hc' with hc'
    injection hc' with _ h2 _
    exact ht (h2.trans ht')
theorem PGot.step {α : Type} {g : Par α} {Q : α → Prop} {mm : Nat} (h : PGot P L N A c mm g Q W) (hg : W.grownBy W' row) (hr : ∀ k, row = some k → k ≠ P ∧ ∃ C t m, W.heap[k]? = some (.cells C t m) ∧ t ≠ 71) : PGot P L N A c mm g Q W' := by
  cases g with
  | bad a e =>
    obtain ⟨h0, nx, h1, h3⟩ := h
    exact ⟨h0, nx, h1, h3.step hg hr⟩
  | ok x r =>
    obtain ⟨hq, nx, h1, h2, h3⟩ := h
    exact ⟨hq, nx, h1, h2, h3.step hg hr⟩
end
/-- A slice of terms, as it lies. -/
def TermsAt (base : Nat) (W : World) (l : List TermL) (v : Value) : Prop := W.ownsRow base 45 5 v l.length (termCells l)
/-- A block's turn that holds no terms, or lies lower. -/
theorem TermsAt.kept {base : Nat} {W W' : World} {l : List TermL} {v : Value} {row : Option Nat} (h : TermsAt base W l v) (hg : W.grownBy W' row) (hr : ∀ k, row = some k → k < base ∨ ∃ C t m, W.heap[k]? = some (.cells C t m) ∧ t ≠ 45) : TermsAt base W' l v := by
  refine World.ownsRow.kept h hg ?_
  rcases h.2 with ⟨rfl, _⟩ | ⟨g, cap, cur, rfl, hb, hk, _⟩
  · exact .inl rfl
  · refine .inr (fun he => ?_)
    rcases hr g he.symm with h1 | ⟨C, t, m, hc, ht⟩
    · omega
    · rw [hk] at hc
      injection hc with hc
      injection hc with _ h2 _
      exact ht h2.symm
theorem TermsAt.below {base : Nat} {W W' : World} {l : List TermL} {v : Value} (h : TermsAt base W l v) (hb : Below W.heap.size W W') : TermsAt base W' l v := h.kept (grown_below hb none) (fun k e => by cases e)

/-- What the closure of atom keeps: the atom's block, its terms', the box of the parser's address. -/
structure ArgJ (P Ab Pb : Nat) (p : ByteArray) (w0 w : World) (acc : List TermL) : Prop where
  g : w0.grownBy w (some P)
  a : ∃ v, w.heap[Ab]? = some (.cells #[.string p, v] 25 (0, 0)) ∧ TermsAt w0.heap.size w acc v ∧ (acc = [] → v = .slice none 0 0)
  b : w.heap[Pb]? = some (.cells #[.pointer (some ⟨P, 0, none⟩)] 61 (0, 0))
theorem ArgJ.step {P Ab Pb : Nat} {p : ByteArray} {w0 w w' : World} {acc : List TermL} (h : ArgJ P Ab Pb p w0 w acc) (hA : w0.heap.size ≤ Ab) (hB : Pb ≠ P) (hP : P < w0.heap.size) (hg : w.grownBy w' (some P)) : ArgJ P Ab Pb p w0 w' acc := by
  obtain ⟨g, ⟨v, a1, a2, a3⟩, b⟩ := h
  exact ⟨grown_trans g hg, ⟨v, (hg.block Ab (Array.getElem?_eq_some_iff.1 a1).1 (by simp; omega)).trans a1, a2.kept hg (fun k e => by cases e; exact .inl hP), a3⟩, (hg.block Pb (Array.getElem?_eq_some_iff.1 b).1 (by simpa using hB)).trans b⟩

theorem en_arg : ∀ args w, (callFunc 63 args).run Tryz.prog w = .ok (.enter 63 args) w := enters_of Tryz.func63 (by kernel_rfl) rfl

set_option maxRecDepth 100000 in
set_option maxHeartbeats 8000000 in
theorem arg_calls {P Ab Pb : Nat} {p : ByteArray} {L : List TP} {N : Nat} {A : Option Addr} {c : Nat} {r : List TP} (w0 w : World) (acc : List TermL) (hP : P < w0.heap.size) (hA : w0.heap.size ≤ Ab) (hB : Pb ≠ P) (hl : acc.length ≤ 100) (h : PO P L N A c r w) (hj : ArgJ P Ab Pb p w0 w acc) :
    Calls Tryz.prog 63 #[.pointer (some ⟨Ab, 0, none⟩), .pointer (some ⟨Pb, 0, none⟩)] w fun e w' => e = .returned (.tuple #[]) ∧ ∃ x, ArgJ P Ab Pb p w0 w' (acc ++ [x]) ∧ PGot P L N A c 65537 (termP N r) (fun y => y = x) w' := by
  obtain ⟨i0, hi, hz0, hz1, hz2⟩ := info_parts trm_info
  obtain ⟨g, ⟨v, a1, a2, a3⟩, b⟩ := hj
  obtain ⟨A1, c1, rfl⟩ := o_slice a2
  have s1 : w.cell? ⟨Ab, 1, none⟩ = some (.slice A1 acc.length c1) := cell_of_row w Ab 1 _ _ _ a1
  have sb : w.cell? ⟨Pb, 0, none⟩ = some (.pointer (some ⟨P, 0, none⟩)) := cell_of_row w Pb 0 _ _ _ b
  have H := Lib.hid h
  have HA1 := Lib.hid a1
  have HA2 := Lib.hid a2
  have HB := Lib.hid b
  have HG := Lib.hid g
  have HPA := Lib.hid hP
  have HHA := Lib.hid hA
  have HHB := Lib.hid hB
  clear h a1 a2 a3 b g hP hA hB
  go_enter Tryz.func63, Tryz.ntmps63
  go_wp2_with fail
  go_region_law (first
    | (go_simp; go_at_call 64; (refine (term_calls _ (H.out.below (Below.refl _ _).drew)).mono ?_); rintro e W1 ⟨hg1, x, rfl, hgot⟩; unfold termA; have hg1' := un_drew hg1; have ha1 := (hg1'.block Ab (Array.getElem?_eq_some_iff.1 HA1.out).1 (by have := HHA.out; have := HPA.out; simp; omega)).trans HA1.out; have hs1 : W1.cell? ⟨Ab, 1, none⟩ = some (.slice A1 acc.length c1) := cell_of_row W1 Ab 1 _ _ _ ha1; have hs2 := fun o => cell_below ((Below.refl W1.heap.size W1).alloc (Nat.le_refl _) o) hs1; have HW1 := Lib.hid hg1'; have HGOT := Lib.hid hgot; have HAW := Lib.hid ha1; have HA3 := Lib.hid (HA2.out.kept hg1' (fun k e => by cases e; exact .inl HPA.out)); have hsz := hg1'.size; have hsz0 := HG.out.size; have HB1 := Lib.hid ((hg1'.block Pb (Array.getElem?_eq_some_iff.1 HB.out).1 (by simpa using HHB.out)).trans HB.out); clear hg1 hg1' hgot ha1)
    | (refine step_append_lies _ rfl (.tmp 3) (.tmp 6) 23 rfl w0.heap.size 45 i0 (.agg #[.bool false, .string ⟨#[]⟩, .bool false, .string ⟨#[]⟩, .int .i64 0]) 5 56 Tryz.underlying23 hi hz0 hz1 hz2 ?_ ?_ (.slice A1 acc.length c1) acc.length (termCells acc) ?_ ?_ ⟨W1.heap.size, 0, none⟩ 1 1 (termC x) ?_ ?_ ?_ ?_ ?_ ?_ ?_ ?_ _ rfl ?_; rfl; decide; rfl; exact HA3.out.alloc _; rfl; rfl; exact o_cells #[.bool x.v, .string (bs x.x), .bool x.s, .string (bs x.t), .int .i64 x.n] 45; (intro u hu; simp [termC] at hu; rcases hu with rfl | rfl | rfl | rfl | rfl <;> rfl); decide; (unfold maxLen; omega); omega; (simp; omega); intro g cap W3 hown hgrow hat hlt; have hgW := grown_trans (World.grownBy_alloc W1 (.cells #[.bool x.v, .string (bs x.x), .bool x.s, .string (bs x.t), .int .i64 x.n] 45) _) hgrow; have ha3 := (hgW.block Ab (Array.getElem?_eq_some_iff.1 HAW.out).1 (o_ne HA3.out HAW.out (by decide))).trans HAW.out; have hs3 : W3.cell? ⟨Ab, 1, none⟩ = some (.slice A1 acc.length c1) := cell_of_row W3 Ab 1 _ _ _ ha3; have hf3 := frozen_of_row W3 Ab 1 _ _ ha3; have HA4 := Lib.hid ha3; have HOWN := Lib.hid hown; have HGW := Lib.hid hgW; clear hown hgrow hat hlt hgW ha3))
  all_goals
    have hAne : Ab ≠ Pb := fun he => by
      have h1 := HAW.out
      rw [he, HB1.out] at h1
      injection h1 with h1
      injection h1 with _ h2 _
      exact absurd h2 (by decide)
    have hown := HOWN.out
    rw [← termCells_snoc] at hown
    have hne3 := o_ne hown HA4.out (by decide)
    have hgS := grown_set (World.grownBy.refl W3 (some Ab)) 1 (.slice (some ⟨g, 0, none⟩) (acc.length + 1) cap)
    have hb3 := (HGW.out.block Pb (Array.getElem?_eq_some_iff.1 HB1.out).1 (o_ne HA3.out HB1.out (by decide))).trans HB1.out
    go_end0
    refine ⟨rfl, x, ⟨?_, ⟨_, set_block HA4.out _, ?_, fun e => by simp at e⟩, ?_⟩, ?_⟩
    · exact grown_setNew (o_grown (grown_trans HG.out HW1.out) HGW.out (fun j hj => by have := o_from HA3.out j hj; exact this)) HHA.out _ _
    · refine World.ownsRow.kept (n := (acc ++ [x]).length) ?_ hgS (.inr (Ne.symm hne3))
      rw [List.length_append, List.length_singleton]
      exact hown
    · exact (hgS.block Pb (Array.getElem?_eq_some_iff.1 hb3).1 (by simp; exact fun e => hAne e.symm)).trans hb3
    · refine PGot.step (PGot.step HGOT.out HGW.out (fun k hk => ⟨by have := o_from HA3.out k hk; have := HPA.out; omega, ?_⟩)) hgS (fun k hk => ?_)
      · obtain ⟨C, t, m, hc, ht⟩ := o_block HA3.out k hk
        exact ⟨C, t, m, hc, by rw [ht]; decide⟩
      · cases hk
        exact ⟨by have := HPA.out; have := HHA.out; omega, _, _, _, HA4.out, by decide⟩
-- THE WALK OF ATOM
theorem PGot.isBad {α : Type} {P : Nat} {L : List TP} {N : Nat} {A : Option Addr} {c mm a e : Nat} {W : World} {Q : α → Prop} (h : PGot P L N A c mm (.bad a e) Q W) : PB P L N A c a e mm W := h
theorem PGot.isOk {α : Type} {P : Nat} {L : List TP} {N : Nat} {A : Option Addr} {c mm : Nat} {x : α} {r : List TP} {W : World} {Q : α → Prop} (h : PGot P L N A c mm (.ok x r) Q W) : Q x ∧ PO P L N A c r W := h
/-- A state is the same behind a store into a newer block that holds no tokens. -/
theorem PGot.setNew {α : Type} {P : Nat} {L : List TP} {N : Nat} {A : Option Addr} {c mm T i : Nat} {W : World} {g : Par α} {Q : α → Prop} {C : Array Value} {t : TypeId} {m : Nat × Nat} (h : PGot P L N A c mm g Q W) (hT : T ≠ P) (hc : W.heap[T]? = some (.cells C t m)) (ht : t ≠ 71) (v : Value) : PGot P L N A c mm g Q (W.setCell ⟨T, i, none⟩ v) :=
  h.step (grown_set (World.grownBy.refl W (some T)) i v) (fun k hk => by cases hk; exact ⟨hT, C, t, m, hc, ht⟩)
theorem TermsAt.setNew {base T i : Nat} {W : World} {l : List TermL} {v : Value} {C : Array Value} {t : TypeId} {m : Nat × Nat} (h : TermsAt base W l v) (hc : W.heap[T]? = some (.cells C t m)) (ht : t ≠ 45) (u : Value) : TermsAt base (W.setCell ⟨T, i, none⟩ u) l v :=
  h.kept (grown_set (World.grownBy.refl W (some T)) i u) (fun k hk => by cases hk; exact .inr ⟨C, t, m, hc, ht⟩)

set_option maxRecDepth 100000 in
set_option maxHeartbeats 16000000 in
theorem atom_calls {P : Nat} {L : List TP} {N : Nat} {A : Option Addr} {c : Nat} {r : List TP} (w : World) (h : PO P L N A c r w) (hmax : ∀ p ∈ L, p.1.s.length ≤ 65536) :
    Calls Tryz.prog 34 #[.pointer (some ⟨P, 0, none⟩)] w fun e w' => w.grownBy w' (some P) ∧ ∃ x v, e = .returned (.agg #[.string (bs x.p), v]) ∧ TermsAt w.heap.size w' x.a v ∧ PGot P L N A c 65600 (atomP N r) (fun y => y = x) w' := by
  have HLT := Lib.hid (show P < w.heap.size by obtain ⟨nx, _, _, hS⟩ := h; exact hS.lt)
  have HN := Lib.hid (show L.length ≤ 65536 by obtain ⟨nx, _, _, hS⟩ := h; exact hS.n)
  have H := Lib.hid h
  have HMAX := Lib.hid hmax
  have BEL := Lib.hid (show Below w.heap.size w ((w.alloc (.cells #[.pointer (some ⟨P, 0, none⟩)] 61)).alloc (.cells #[.string ⟨#[]⟩, .slice none 0 0] 25)) from ((Below.refl w.heap.size w).alloc (Nat.le_refl _) _).alloc (by simp) _)
  have BELG := Lib.hid (show w.grownBy ((w.alloc (.cells #[.pointer (some ⟨P, 0, none⟩)] 61)).alloc (.cells #[.string ⟨#[]⟩, .slice none 0 0] 25)) (some P) from grown_below BEL.out _)
  have HB0 := Lib.hid (show ((w.alloc (.cells #[.pointer (some ⟨P, 0, none⟩)] 61)).alloc (.cells #[.string ⟨#[]⟩, .slice none 0 0] 25)).heap[w.heap.size]? = some (.cells #[.pointer (some ⟨P, 0, none⟩)] 61 (0, 0)) from (Below.heap_alloc _ _ _ (by simp)).trans (heap_alloc_new w _))
  have HR0 := Lib.hid (show ((w.alloc (.cells #[.pointer (some ⟨P, 0, none⟩)] 61)).alloc (.cells #[.string ⟨#[]⟩, .slice none 0 0] 25)).heap[w.heap.size + 1]? = some (.cells #[.string ⟨#[]⟩, .slice none 0 0] 25 (0, 0)) from heap_new2 w _ _)
  have HPB := Lib.hid (show w.heap.size ≠ P by have := HLT.out; omega)
  clear h hmax
  cases ho : nameP N r with
  | bad a e0 =>
    have HO := Lib.hid ho
    have HF := Lib.hid (show atomP N r = .bad a e0 by unfold atomP; rw [ho])
    clear ho
    go_enter Tryz.func34, Tryz.ntmps34
    go_wp2_with (first
      | (go_at_call 59; ((with_reducible refine (name_calls _ (H.out.below BEL.out) HMAX.out).mono ?_); rintro e w1 ⟨hg1, x, rfl, hgot⟩; rw [HO.out] at hgot; obtain ⟨he0, nx1, hnx1, hS1⟩ := hgot; have HS2 := Lib.hid (hS1.below ((Below.refl w1.heap.size w1).alloc (Nat.le_refl _) (.cells #[.string (bs x), .slice none 0 0] 25))); have HG1 := Lib.hid (grown_trans BELG.out hg1); have HBB := Lib.hid ((hg1.block _ (by simp <;> omega) (by have := HLT.out; simp; omega)).trans HB0.out); have HRR := Lib.hid ((hg1.block _ (by simp <;> omega) (by have := HLT.out; simp; omega)).trans HR0.out); have HB2 := Lib.hid ((Below.heap_alloc w1 (.cells #[.string (bs x), .slice none 0 0] 25) _ (Array.getElem?_eq_some_iff.1 HBB.out).1).trans HBB.out); have HR2 := Lib.hid ((Below.heap_alloc w1 (.cells #[.string (bs x), .slice none 0 0] 25) _ (Array.getElem?_eq_some_iff.1 HRR.out).1).trans HRR.out); have HAB := Lib.hid (heap_alloc_new w1 (.cells #[.string (bs x), .slice none 0 0] 25)); have z0 := cell_of_row (w1.alloc (.cells #[.string (bs x), .slice none 0 0] 25)) (w.heap.size + 1) 0 _ _ _ HR2.out; have z1 := cell_of_row (w1.alloc (.cells #[.string (bs x), .slice none 0 0] 25)) (w.heap.size + 1) 1 _ _ _ HR2.out; have y0 := frozen_of_row (w1.alloc (.cells #[.string (bs x), .slice none 0 0] 25)) (w.heap.size + 1) 0 _ _ HR2.out; have y1 := frozen_of_row (w1.alloc (.cells #[.string (bs x), .slice none 0 0] 25)) (w.heap.size + 1) 1 _ _ HR2.out; have pb := cell_of_row (w1.alloc (.cells #[.string (bs x), .slice none 0 0] 25)) w.heap.size 0 _ _ _ HB2.out; have HE0 := Lib.hid he0; have HNX1 := Lib.hid hnx1; have hbb : ((e0 : Int) == 0) = false := (by simp; omega); have HBBB := Lib.hid hbb; clear he0 hnx1; clear hg1 hS1))
      | (go_at_call 33; ((with_reducible refine (pok_calls false _ HS2.out HBBB.out).mono ?_); rintro e w' ⟨rfl, rfl⟩)))
    have hsz := HG1.out.size
    have hset := set_block (i := 1) (set_block (i := 0) HR2.out (.string (bs x))) (.slice none 0 0)
    have q0 := cell_of_row _ _ 0 _ _ _ hset; have q1 := cell_of_row _ _ 1 _ _ _ hset
    refine bodyPost_ret (v := .agg #[.string (bs x), .slice none 0 0]) (by simp [results, Tryz.results34, go_sem, q0, q1]) rfl ⟨grown_setNew (grown_setNew (grown_trans HG1.out (World.grownBy_alloc _ _ _)) (by omega) _ _) (by omega) _ _, ⟨x, []⟩, .slice none 0 0, rfl, World.ownsRow_nil _ _ _ _, ?_⟩
    rw [HF.out]
    exact PGot.setNew (g := Par.bad (α := AtomL) a e0) (PGot.setNew (g := Par.bad (α := AtomL) a e0) ⟨HE0.out, nx1, by have := HNX1.out; omega, HS2.out⟩ (by have := HLT.out; omega) HR2.out (by decide) _) (by have := HLT.out; omega) (set_block HR2.out _) (by decide) _
  | ok p0 r1 =>
    have HO := Lib.hid ho
    cases hv : isM N r1 0 [40] with
    | false =>
      have HF := Lib.hid (show atomP N r = .ok ⟨p0, []⟩ r1 by unfold atomP; rw [ho]; simp [hv])
      have HV0 := Lib.hid hv
      clear ho hv
      go_enter Tryz.func34, Tryz.ntmps34
      go_wp2_with (first
        | (go_at_call 59; ((with_reducible refine (name_calls _ (H.out.below BEL.out) HMAX.out).mono ?_); rintro e w1 ⟨hg1, x, rfl, hgot⟩; rw [HO.out] at hgot; obtain ⟨hxx, nx1, hnx1, hr1, hS1⟩ := hgot; have HS2 := Lib.hid (hS1.below ((Below.refl w1.heap.size w1).alloc (Nat.le_refl _) (.cells #[.string (bs x), .slice none 0 0] 25))); have HG1 := Lib.hid (grown_trans BELG.out hg1); have HBB := Lib.hid ((hg1.block _ (by simp <;> omega) (by have := HLT.out; simp; omega)).trans HB0.out); have HRR := Lib.hid ((hg1.block _ (by simp <;> omega) (by have := HLT.out; simp; omega)).trans HR0.out); have HB2 := Lib.hid ((Below.heap_alloc w1 (.cells #[.string (bs x), .slice none 0 0] 25) _ (Array.getElem?_eq_some_iff.1 HBB.out).1).trans HBB.out); have HR2 := Lib.hid ((Below.heap_alloc w1 (.cells #[.string (bs x), .slice none 0 0] 25) _ (Array.getElem?_eq_some_iff.1 HRR.out).1).trans HRR.out); have HAB := Lib.hid (heap_alloc_new w1 (.cells #[.string (bs x), .slice none 0 0] 25)); have z0 := cell_of_row (w1.alloc (.cells #[.string (bs x), .slice none 0 0] 25)) (w.heap.size + 1) 0 _ _ _ HR2.out; have z1 := cell_of_row (w1.alloc (.cells #[.string (bs x), .slice none 0 0] 25)) (w.heap.size + 1) 1 _ _ _ HR2.out; have y0 := frozen_of_row (w1.alloc (.cells #[.string (bs x), .slice none 0 0] 25)) (w.heap.size + 1) 0 _ _ HR2.out; have y1 := frozen_of_row (w1.alloc (.cells #[.string (bs x), .slice none 0 0] 25)) (w.heap.size + 1) 1 _ _ HR2.out; have pb := cell_of_row (w1.alloc (.cells #[.string (bs x), .slice none 0 0] 25)) w.heap.size 0 _ _ _ HB2.out; have HXX := Lib.hid hxx; have HNX1 := Lib.hid hnx1; have HR1 := Lib.hid hr1; have HV := Lib.hid (show isM N (L.drop nx1) 0 (⟨#[40]⟩ : ByteArray).data.toList = false by rw [hr1]; exact HV0.out); clear hxx hnx1 hr1; clear hg1 hS1))
        | (go_at_call 33; ((with_reducible refine (pok_calls true _ HS2.out rfl).mono ?_); rintro e w' ⟨rfl, rfl⟩))
        | (go_at_call 60; ((with_reducible refine (is_calls ⟨#[40]⟩ false _ HS2.out HV.out).mono ?_); rintro e w2 ⟨rfl, hb2⟩; have HS3 := Lib.hid (HS2.out.below hb2); have HB3 := Lib.hid ((hb2.block _ (Array.getElem?_eq_some_iff.1 HB2.out).1).trans HB2.out); have HR3 := Lib.hid ((hb2.block _ (Array.getElem?_eq_some_iff.1 HR2.out).1).trans HR2.out); have HA3 := Lib.hid ((hb2.block _ (Array.getElem?_eq_some_iff.1 HAB.out).1).trans HAB.out); have HG2 := Lib.hid hb2; clear z0 z1 y0 y1 pb; have z0 := cell_of_row w2 (w.heap.size + 1) 0 _ _ _ HR3.out; have z1 := cell_of_row w2 (w.heap.size + 1) 1 _ _ _ HR3.out; have y0 := frozen_of_row w2 (w.heap.size + 1) 0 _ _ HR3.out; have y1 := frozen_of_row w2 (w.heap.size + 1) 1 _ _ HR3.out; have pb := cell_of_row w2 w.heap.size 0 _ _ _ HB3.out; have a0 := cell_of_row w2 w1.heap.size 0 _ _ _ HA3.out; have a1 := cell_of_row w2 w1.heap.size 1 _ _ _ HA3.out; clear hb2)))
      have hsz := HG1.out.size
      have hset := set_block (i := 1) (set_block (i := 0) HR3.out (.string (bs x))) (.slice none 0 0)
      have q0 := cell_of_row _ _ 0 _ _ _ hset; have q1 := cell_of_row _ _ 1 _ _ _ hset
      refine bodyPost_ret (v := .agg #[.string (bs x), .slice none 0 0]) (by simp [results, Tryz.results34, go_sem, q0, q1]) rfl ⟨grown_setNew (grown_setNew (grown_trans HG1.out (grown_trans (World.grownBy_alloc _ _ _) (grown_below HG2.out _))) (by omega) _ _) (by omega) _ _, ⟨x, []⟩, .slice none 0 0, rfl, World.ownsRow_nil _ _ _ _, ?_⟩
      rw [HF.out]
      exact PGot.setNew (g := Par.ok (⟨p0, []⟩ : AtomL) r1) (PGot.setNew (g := Par.ok (⟨p0, []⟩ : AtomL) r1) ⟨by rw [HXX.out], nx1, HNX1.out, HR1.out, HS3.out⟩ (by have := HLT.out; omega) HR3.out (by decide) _) (by have := HLT.out; omega) (set_block HR3.out _) (by decide) _
    | true =>
      obtain ⟨⟨⟨k, s, n, q⟩, a⟩, hp⟩ : ∃ p, pk N r1 0 = p := ⟨_, rfl⟩
      obtain ⟨r2, hr2⟩ : ∃ r2, r1.tail = r2 := ⟨_, rfl⟩
      have HP0 := Lib.hid hp
      have HRT := Lib.hid hr2
      have HV0 := Lib.hid hv
      cases hs : someP (termP N) N 6 r2 with
      | bad a2 e2 =>
        have HSO := Lib.hid hs
        have HF := Lib.hid (show atomP N r = .bad a2 e2 by unfold atomP; rw [ho]; simp [hv, hr2, hs])
        clear ho hv hp hr2 hs
        go_enter Tryz.func34, Tryz.ntmps34
        go_wp2_with (first
          | (go_at_call 59; ((with_reducible refine (name_calls _ (H.out.below BEL.out) HMAX.out).mono ?_); rintro e w1 ⟨hg1, x, rfl, hgot⟩; rw [HO.out] at hgot; obtain ⟨hxx, nx1, hnx1, hr1, hS1⟩ := hgot; have HS2 := Lib.hid (hS1.below ((Below.refl w1.heap.size w1).alloc (Nat.le_refl _) (.cells #[.string (bs x), .slice none 0 0] 25))); have HG1 := Lib.hid (grown_trans BELG.out hg1); have HBB := Lib.hid ((hg1.block _ (by simp <;> omega) (by have := HLT.out; simp; omega)).trans HB0.out); have HRR := Lib.hid ((hg1.block _ (by simp <;> omega) (by have := HLT.out; simp; omega)).trans HR0.out); have HB2 := Lib.hid ((Below.heap_alloc w1 (.cells #[.string (bs x), .slice none 0 0] 25) _ (Array.getElem?_eq_some_iff.1 HBB.out).1).trans HBB.out); have HR2 := Lib.hid ((Below.heap_alloc w1 (.cells #[.string (bs x), .slice none 0 0] 25) _ (Array.getElem?_eq_some_iff.1 HRR.out).1).trans HRR.out); have HAB := Lib.hid (heap_alloc_new w1 (.cells #[.string (bs x), .slice none 0 0] 25)); have z0 := cell_of_row (w1.alloc (.cells #[.string (bs x), .slice none 0 0] 25)) (w.heap.size + 1) 0 _ _ _ HR2.out; have z1 := cell_of_row (w1.alloc (.cells #[.string (bs x), .slice none 0 0] 25)) (w.heap.size + 1) 1 _ _ _ HR2.out; have y0 := frozen_of_row (w1.alloc (.cells #[.string (bs x), .slice none 0 0] 25)) (w.heap.size + 1) 0 _ _ HR2.out; have y1 := frozen_of_row (w1.alloc (.cells #[.string (bs x), .slice none 0 0] 25)) (w.heap.size + 1) 1 _ _ HR2.out; have pb := cell_of_row (w1.alloc (.cells #[.string (bs x), .slice none 0 0] 25)) w.heap.size 0 _ _ _ HB2.out; have HXX := Lib.hid hxx; have HNX1 := Lib.hid hnx1; have HR1 := Lib.hid hr1; have HV := Lib.hid (show isM N (L.drop nx1) 0 (⟨#[40]⟩ : ByteArray).data.toList = true by rw [hr1]; exact HV0.out); have HIN := Lib.hid (comma_in HV.out); have HX := Lib.hid (show nx1 + 1 ≤ 1000000 by have := HIN.out; have := HN.out; omega); have HP := Lib.hid (show pk N (L.drop nx1) 0 = (⟨k, s, n, q⟩, a) by rw [hr1]; exact HP0.out); have HTL := Lib.hid (show L.drop (nx1 + 1) = r2 by rw [← HRT.out, ← hr1, List.tail_drop]); have HLT1 := Lib.hid (show P < w1.heap.size by have := hg1.size; have := HLT.out; simp at *; omega); clear hxx hnx1 hr1; clear hg1 hS1))
          | (go_at_call 33; ((with_reducible refine (pok_calls true _ HS2.out rfl).mono ?_); rintro e w' ⟨rfl, rfl⟩))
          | (go_at_call 60; ((with_reducible refine (is_calls ⟨#[40]⟩ true _ HS2.out HV.out).mono ?_); rintro e w2 ⟨rfl, hb2⟩; have HS3 := Lib.hid (HS2.out.below hb2); have HB3 := Lib.hid ((hb2.block _ (Array.getElem?_eq_some_iff.1 HB2.out).1).trans HB2.out); have HR3 := Lib.hid ((hb2.block _ (Array.getElem?_eq_some_iff.1 HR2.out).1).trans HR2.out); have HA3 := Lib.hid ((hb2.block _ (Array.getElem?_eq_some_iff.1 HAB.out).1).trans HAB.out); have HG2 := Lib.hid hb2; clear z0 z1 y0 y1 pb; have z0 := cell_of_row w2 (w.heap.size + 1) 0 _ _ _ HR3.out; have z1 := cell_of_row w2 (w.heap.size + 1) 1 _ _ _ HR3.out; have y0 := frozen_of_row w2 (w.heap.size + 1) 0 _ _ HR3.out; have y1 := frozen_of_row w2 (w.heap.size + 1) 1 _ _ HR3.out; have pb := cell_of_row w2 w.heap.size 0 _ _ _ HB3.out; have a0 := cell_of_row w2 w1.heap.size 0 _ _ _ HA3.out; have a1 := cell_of_row w2 w1.heap.size 1 _ _ _ HA3.out; clear hb2))
          | (go_at_call 61; ((with_reducible refine (takeA_calls _ k s n q a _ HS3.out HX.out HP.out rfl).mono ?_); rintro e w3 ⟨rfl, hs3, hg3⟩; have HS4 := Lib.hid hs3; have HB4 := Lib.hid ((hg3.block _ (Array.getElem?_eq_some_iff.1 HB3.out).1 (by have := HLT.out; simp; omega)).trans HB3.out); have HR4 := Lib.hid ((hg3.block _ (Array.getElem?_eq_some_iff.1 HR3.out).1 (by have := HLT.out; simp; omega)).trans HR3.out); have HA4 := Lib.hid ((hg3.block _ (Array.getElem?_eq_some_iff.1 HA3.out).1 (by have := HLT1.out; simp; omega)).trans HA3.out); have HG3 := Lib.hid hg3; clear z0 z1 y0 y1 pb; clear a0 a1; have z0 := cell_of_row w3 (w.heap.size + 1) 0 _ _ _ HR4.out; have z1 := cell_of_row w3 (w.heap.size + 1) 1 _ _ _ HR4.out; have y0 := frozen_of_row w3 (w.heap.size + 1) 0 _ _ HR4.out; have y1 := frozen_of_row w3 (w.heap.size + 1) 1 _ _ HR4.out; have pb := cell_of_row w3 w.heap.size 0 _ _ _ HB4.out; clear hs3 hg3))
          | (go_at_call 62; refine RowKit.Hid.out ?_))
        refine Lib.hid ?_
        (with_reducible refine (someI_calls (L := L) (A := A) (c := c) 63 #[.pointer (some ⟨w1.heap.size, 0, none⟩), .pointer (some ⟨w.heap.size, 0, none⟩)] en_arg (termP N) (ArgJ P w1.heap.size w.heap.size (bs x) w1) (fun u u' acc hj hg => hj.step (Nat.le_refl _) HPB.out HLT1.out hg) 65537 (by omega) (Nat.le_refl _) (fun u acc r' hl hpo hj => arg_calls w1 u acc HLT1.out (Nat.le_refl _) HPB.out hl hpo hj) 6 6 rfl (by omega) r2 _ ?_ ?_).mono ?_)
        (focus (exact ⟨nx1 + 1, HIN.out, HTL.out, HS4.out⟩))
        (focus (exact ⟨grown_trans (World.grownBy_alloc _ _ _) (grown_trans (grown_below HG2.out _) HG3.out), ⟨_, HA4.out, World.ownsRow_nil _ _ _ _, fun _ => rfl⟩, HB4.out⟩))
        rintro e w4 ⟨rfl, acc, hj4, hgot4⟩
        rw [HSO.out] at hgot4
        have HJ4 := Lib.hid hj4
        have HGOT4 := Lib.hid hgot4
        obtain ⟨v4, ha4, ht4, _⟩ := hj4.a
        obtain ⟨A4, c4, rfl⟩ := o_slice ht4
        have HA5 := Lib.hid ha4
        have HT5 := Lib.hid ht4
        have HG4 := Lib.hid hj4.g
        have HB5 := Lib.hid hj4.b
        have HR5 := Lib.hid ((hj4.g.block _ (Array.getElem?_eq_some_iff.1 HRR.out).1 (by have := HLT.out; simp; omega)).trans HRR.out)
        clear z0 z1 y0 y1 pb
        have z0 := cell_of_row w4 (w.heap.size + 1) 0 _ _ _ HR5.out
        have z1 := cell_of_row w4 (w.heap.size + 1) 1 _ _ _ HR5.out
        have y0 := frozen_of_row w4 (w.heap.size + 1) 0 _ _ HR5.out
        have y1 := frozen_of_row w4 (w.heap.size + 1) 1 _ _ HR5.out
        have pb := cell_of_row w4 w.heap.size 0 _ _ _ HB5.out
        clear ha4 ht4 hj4 hgot4
        go_wp2_with (go_at_call 65; ((with_reducible refine (mark_bad_calls ⟨#[41]⟩ _ HGOT4.out.isBad (by omega)).mono ?_); rintro e w5 ⟨rfl, hg5, hgot5⟩; have HG5 := Lib.hid hg5; have HA6 := Lib.hid ((hg5.block _ (Array.getElem?_eq_some_iff.1 HA5.out).1 (by have := HLT1.out; simp; omega)).trans HA5.out); have HR6 := Lib.hid ((hg5.block _ (Array.getElem?_eq_some_iff.1 HR5.out).1 (by have := HLT.out; simp; omega)).trans HR5.out); have HB6 := Lib.hid ((hg5.block _ (Array.getElem?_eq_some_iff.1 HB5.out).1 (by have := HLT.out; simp; omega)).trans HB5.out); have HT6 := Lib.hid (HT5.out.kept hg5 (fun j e => by cases e; exact .inl HLT1.out)); clear z0 z1 y0 y1 pb; have z0 := cell_of_row w5 (w.heap.size + 1) 0 _ _ _ HR6.out; have z1 := cell_of_row w5 (w.heap.size + 1) 1 _ _ _ HR6.out; have y0 := frozen_of_row w5 (w.heap.size + 1) 0 _ _ HR6.out; have y1 := frozen_of_row w5 (w.heap.size + 1) 1 _ _ HR6.out; have pb := cell_of_row w5 w.heap.size 0 _ _ _ HB6.out; have a0 := cell_of_row w5 w1.heap.size 0 _ _ _ HA6.out; have a1 := cell_of_row w5 w1.heap.size 1 _ _ _ HA6.out; have HGOT5 := Lib.hid hgot5; clear hg5 hgot5))
        have hsz := HG1.out.size
        have hsz1 : w.heap.size ≤ w1.heap.size := HG1.out.size
        have hset := set_block (i := 1) (set_block (i := 0) HR6.out (.string (bs x))) (.slice A4 acc.length c4)
        have q0 := cell_of_row _ _ 0 _ _ _ hset; have q1 := cell_of_row _ _ 1 _ _ _ hset
        refine bodyPost_ret (v := .agg #[.string (bs x), .slice A4 acc.length c4]) (by simp [results, Tryz.results34, go_sem, q0, q1]) rfl ⟨grown_setNew (grown_setNew (grown_trans HG1.out (grown_trans HG4.out HG5.out)) (by omega) _ _) (by omega) _ _, ⟨x, acc⟩, _, rfl, ?_, ?_⟩
        · exact o_base ((HT6.out.setNew HR6.out (by decide) _).setNew (set_block HR6.out _) (by decide) _) hsz1
        rw [HF.out]
        exact PGot.setNew (g := Par.bad (α := AtomL) a2 e2) (PGot.setNew (g := Par.bad (α := AtomL) a2 e2) (HGOT5.out.mono (by omega)) (by have := HLT.out; omega) HR6.out (by decide) _) (by have := HLT.out; omega) (set_block HR6.out _) (by decide) _
      | ok l r3 =>
        have HSO := Lib.hid hs
        have HF := Lib.hid (show atomP N r = markP N [41] ⟨p0, l⟩ r3 by unfold atomP; rw [ho]; simp [hv, hr2, hs])
        clear ho hv hp hr2 hs
        go_enter Tryz.func34, Tryz.ntmps34
        go_wp2_with (first
          | (go_at_call 59; ((with_reducible refine (name_calls _ (H.out.below BEL.out) HMAX.out).mono ?_); rintro e w1 ⟨hg1, x, rfl, hgot⟩; rw [HO.out] at hgot; obtain ⟨hxx, nx1, hnx1, hr1, hS1⟩ := hgot; have HS2 := Lib.hid (hS1.below ((Below.refl w1.heap.size w1).alloc (Nat.le_refl _) (.cells #[.string (bs x), .slice none 0 0] 25))); have HG1 := Lib.hid (grown_trans BELG.out hg1); have HBB := Lib.hid ((hg1.block _ (by simp <;> omega) (by have := HLT.out; simp; omega)).trans HB0.out); have HRR := Lib.hid ((hg1.block _ (by simp <;> omega) (by have := HLT.out; simp; omega)).trans HR0.out); have HB2 := Lib.hid ((Below.heap_alloc w1 (.cells #[.string (bs x), .slice none 0 0] 25) _ (Array.getElem?_eq_some_iff.1 HBB.out).1).trans HBB.out); have HR2 := Lib.hid ((Below.heap_alloc w1 (.cells #[.string (bs x), .slice none 0 0] 25) _ (Array.getElem?_eq_some_iff.1 HRR.out).1).trans HRR.out); have HAB := Lib.hid (heap_alloc_new w1 (.cells #[.string (bs x), .slice none 0 0] 25)); have z0 := cell_of_row (w1.alloc (.cells #[.string (bs x), .slice none 0 0] 25)) (w.heap.size + 1) 0 _ _ _ HR2.out; have z1 := cell_of_row (w1.alloc (.cells #[.string (bs x), .slice none 0 0] 25)) (w.heap.size + 1) 1 _ _ _ HR2.out; have y0 := frozen_of_row (w1.alloc (.cells #[.string (bs x), .slice none 0 0] 25)) (w.heap.size + 1) 0 _ _ HR2.out; have y1 := frozen_of_row (w1.alloc (.cells #[.string (bs x), .slice none 0 0] 25)) (w.heap.size + 1) 1 _ _ HR2.out; have pb := cell_of_row (w1.alloc (.cells #[.string (bs x), .slice none 0 0] 25)) w.heap.size 0 _ _ _ HB2.out; have HXX := Lib.hid hxx; have HNX1 := Lib.hid hnx1; have HR1 := Lib.hid hr1; have HV := Lib.hid (show isM N (L.drop nx1) 0 (⟨#[40]⟩ : ByteArray).data.toList = true by rw [hr1]; exact HV0.out); have HIN := Lib.hid (comma_in HV.out); have HX := Lib.hid (show nx1 + 1 ≤ 1000000 by have := HIN.out; have := HN.out; omega); have HP := Lib.hid (show pk N (L.drop nx1) 0 = (⟨k, s, n, q⟩, a) by rw [hr1]; exact HP0.out); have HTL := Lib.hid (show L.drop (nx1 + 1) = r2 by rw [← HRT.out, ← hr1, List.tail_drop]); have HLT1 := Lib.hid (show P < w1.heap.size by have := hg1.size; have := HLT.out; simp at *; omega); clear hxx hnx1 hr1; clear hg1 hS1))
          | (go_at_call 33; ((with_reducible refine (pok_calls true _ HS2.out rfl).mono ?_); rintro e w' ⟨rfl, rfl⟩))
          | (go_at_call 60; ((with_reducible refine (is_calls ⟨#[40]⟩ true _ HS2.out HV.out).mono ?_); rintro e w2 ⟨rfl, hb2⟩; have HS3 := Lib.hid (HS2.out.below hb2); have HB3 := Lib.hid ((hb2.block _ (Array.getElem?_eq_some_iff.1 HB2.out).1).trans HB2.out); have HR3 := Lib.hid ((hb2.block _ (Array.getElem?_eq_some_iff.1 HR2.out).1).trans HR2.out); have HA3 := Lib.hid ((hb2.block _ (Array.getElem?_eq_some_iff.1 HAB.out).1).trans HAB.out); have HG2 := Lib.hid hb2; clear z0 z1 y0 y1 pb; have z0 := cell_of_row w2 (w.heap.size + 1) 0 _ _ _ HR3.out; have z1 := cell_of_row w2 (w.heap.size + 1) 1 _ _ _ HR3.out; have y0 := frozen_of_row w2 (w.heap.size + 1) 0 _ _ HR3.out; have y1 := frozen_of_row w2 (w.heap.size + 1) 1 _ _ HR3.out; have pb := cell_of_row w2 w.heap.size 0 _ _ _ HB3.out; have a0 := cell_of_row w2 w1.heap.size 0 _ _ _ HA3.out; have a1 := cell_of_row w2 w1.heap.size 1 _ _ _ HA3.out; clear hb2))
          | (go_at_call 61; ((with_reducible refine (takeA_calls _ k s n q a _ HS3.out HX.out HP.out rfl).mono ?_); rintro e w3 ⟨rfl, hs3, hg3⟩; have HS4 := Lib.hid hs3; have HB4 := Lib.hid ((hg3.block _ (Array.getElem?_eq_some_iff.1 HB3.out).1 (by have := HLT.out; simp; omega)).trans HB3.out); have HR4 := Lib.hid ((hg3.block _ (Array.getElem?_eq_some_iff.1 HR3.out).1 (by have := HLT.out; simp; omega)).trans HR3.out); have HA4 := Lib.hid ((hg3.block _ (Array.getElem?_eq_some_iff.1 HA3.out).1 (by have := HLT1.out; simp; omega)).trans HA3.out); have HG3 := Lib.hid hg3; clear z0 z1 y0 y1 pb; clear a0 a1; have z0 := cell_of_row w3 (w.heap.size + 1) 0 _ _ _ HR4.out; have z1 := cell_of_row w3 (w.heap.size + 1) 1 _ _ _ HR4.out; have y0 := frozen_of_row w3 (w.heap.size + 1) 0 _ _ HR4.out; have y1 := frozen_of_row w3 (w.heap.size + 1) 1 _ _ HR4.out; have pb := cell_of_row w3 w.heap.size 0 _ _ _ HB4.out; clear hs3 hg3))
          | (go_at_call 62; refine RowKit.Hid.out ?_))
        refine Lib.hid ?_
        (with_reducible refine (someI_calls (L := L) (A := A) (c := c) 63 #[.pointer (some ⟨w1.heap.size, 0, none⟩), .pointer (some ⟨w.heap.size, 0, none⟩)] en_arg (termP N) (ArgJ P w1.heap.size w.heap.size (bs x) w1) (fun u u' acc hj hg => hj.step (Nat.le_refl _) HPB.out HLT1.out hg) 65537 (by omega) (Nat.le_refl _) (fun u acc r' hl hpo hj => arg_calls w1 u acc HLT1.out (Nat.le_refl _) HPB.out hl hpo hj) 6 6 rfl (by omega) r2 _ ?_ ?_).mono ?_)
        (focus (exact ⟨nx1 + 1, HIN.out, HTL.out, HS4.out⟩))
        (focus (exact ⟨grown_trans (World.grownBy_alloc _ _ _) (grown_trans (grown_below HG2.out _) HG3.out), ⟨_, HA4.out, World.ownsRow_nil _ _ _ _, fun _ => rfl⟩, HB4.out⟩))
        rintro e w4 ⟨rfl, acc, hj4, hgot4⟩
        rw [HSO.out] at hgot4
        have HJ4 := Lib.hid hj4
        have HGOT4 := Lib.hid hgot4
        obtain ⟨v4, ha4, ht4, _⟩ := hj4.a
        obtain ⟨A4, c4, rfl⟩ := o_slice ht4
        have HA5 := Lib.hid ha4
        have HT5 := Lib.hid ht4
        have HG4 := Lib.hid hj4.g
        have HB5 := Lib.hid hj4.b
        have HR5 := Lib.hid ((hj4.g.block _ (Array.getElem?_eq_some_iff.1 HRR.out).1 (by have := HLT.out; simp; omega)).trans HRR.out)
        clear z0 z1 y0 y1 pb
        have z0 := cell_of_row w4 (w.heap.size + 1) 0 _ _ _ HR5.out
        have z1 := cell_of_row w4 (w.heap.size + 1) 1 _ _ _ HR5.out
        have y0 := frozen_of_row w4 (w.heap.size + 1) 0 _ _ HR5.out
        have y1 := frozen_of_row w4 (w.heap.size + 1) 1 _ _ HR5.out
        have pb := cell_of_row w4 w.heap.size 0 _ _ _ HB5.out
        clear ha4 ht4 hj4 hgot4
        go_wp2_with (go_at_call 65; ((with_reducible refine (mark_ok_calls ⟨#[41]⟩ _ HGOT4.out.isOk.2 (Nat.le_refl _)).mono ?_); rintro e w5 ⟨rfl, hg5, hgot5⟩; have HG5 := Lib.hid hg5; have HA6 := Lib.hid ((hg5.block _ (Array.getElem?_eq_some_iff.1 HA5.out).1 (by have := HLT1.out; simp; omega)).trans HA5.out); have HR6 := Lib.hid ((hg5.block _ (Array.getElem?_eq_some_iff.1 HR5.out).1 (by have := HLT.out; simp; omega)).trans HR5.out); have HB6 := Lib.hid ((hg5.block _ (Array.getElem?_eq_some_iff.1 HB5.out).1 (by have := HLT.out; simp; omega)).trans HB5.out); have HT6 := Lib.hid (HT5.out.kept hg5 (fun j e => by cases e; exact .inl HLT1.out)); clear z0 z1 y0 y1 pb; have z0 := cell_of_row w5 (w.heap.size + 1) 0 _ _ _ HR6.out; have z1 := cell_of_row w5 (w.heap.size + 1) 1 _ _ _ HR6.out; have y0 := frozen_of_row w5 (w.heap.size + 1) 0 _ _ HR6.out; have y1 := frozen_of_row w5 (w.heap.size + 1) 1 _ _ HR6.out; have pb := cell_of_row w5 w.heap.size 0 _ _ _ HB6.out; have a0 := cell_of_row w5 w1.heap.size 0 _ _ _ HA6.out; have a1 := cell_of_row w5 w1.heap.size 1 _ _ _ HA6.out; have HGOT5 := Lib.hid hgot5; clear hg5 hgot5))
        have hsz := HG1.out.size
        have hsz1 : w.heap.size ≤ w1.heap.size := HG1.out.size
        have hset := set_block (i := 1) (set_block (i := 0) HR6.out (.string (bs x))) (.slice A4 acc.length c4)
        have q0 := cell_of_row _ _ 0 _ _ _ hset; have q1 := cell_of_row _ _ 1 _ _ _ hset
        refine bodyPost_ret (v := .agg #[.string (bs x), .slice A4 acc.length c4]) (by simp [results, Tryz.results34, go_sem, q0, q1]) rfl ⟨grown_setNew (grown_setNew (grown_trans HG1.out (grown_trans HG4.out HG5.out)) (by omega) _ _) (by omega) _ _, ⟨x, acc⟩, _, rfl, ?_, ?_⟩
        · exact o_base ((HT6.out.setNew HR6.out (by decide) _).setNew (set_block HR6.out _) (by decide) _) hsz1
        rw [HF.out]
        refine PGot.setNew (PGot.setNew ?_ (by have := HLT.out; omega) HR6.out (by decide) _) (by have := HLT.out; omega) (set_block HR6.out _) (by decide) _
        have hg := HGOT5.out
        have he : (⟨p0, l⟩ : AtomL) = ⟨x, acc⟩ := by rw [HXX.out, HGOT4.out.isOk.1]
        unfold markP at hg ⊢
        split at hg
        · rename_i hc
          rw [if_pos hc]
          exact ⟨he, hg.2⟩
        · rename_i hc
          rw [if_neg hc]
          exact PB.mono hg (by omega)
end Go.Proofs.YtminbdcabacfbaaGreatDoor.V
