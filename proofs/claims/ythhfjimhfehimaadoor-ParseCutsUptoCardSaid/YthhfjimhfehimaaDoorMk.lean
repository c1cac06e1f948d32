/- (*parser).arity, mark; (*stream).operates. -/
import Derived.Test.YthhfjimhfehimaaDoorTerm
namespace Go.Proofs.YthhfjimhfehimaaDoor.V
set_option linter.unusedVariables false
set_option linter.unusedSimpArgs false
open Go.RowKit

set_option maxRecDepth 100000 in
set_option maxHeartbeats 4000000 in
theorem arity_calls {P : Nat} {L : List TP} {N : Nat} {A : Option Addr} {c : Nat} {r : List TP} (w : World) (h : PO P L N A c r w) :
    Calls Tryd.prog 21 #[.pointer (some ⟨P, 0, none⟩)] w fun e w' => w.grownBy w' (some P) ∧ ∃ x, e = .returned (.int .i64 x) ∧ PGot P L N A c 65537 (arityP N r) (fun y => y = x) w' := by
  obtain ⟨nx, hnx, rfl, hS⟩ := h
  obtain ⟨⟨⟨k, s, n, q⟩, a⟩, hp⟩ : ∃ p, pk N (L.drop nx) 0 = p := ⟨_, rfl⟩
  obtain ⟨K, hK⟩ : ∃ K : Int, (k : Int) = K := ⟨_, rfl⟩
  have HK := Lib.hid hK
  have hn := hS.n
  have HN := Lib.hid hn
  have HNX := Lib.hid hnx
  have HS := Lib.hid (fun W (hb : Below w.heap.size w W) => hS.below hb)
  have HX := Lib.hid (show nx + 1 ≤ 1000000 by omega)
  have HP := Lib.hid hp
  clear hS hn hK
  cases h3 : (K == 3) with
  | false =>
    have h3' : (K != 3) = true := by simpa using h3
    have HT := Lib.hid (k_no (n := 3) HK.out h3 rfl)
    have HG := Lib.hid (show arityP N (L.drop nx) = (.bad a 2) by
      unfold arityP
      rw [hp]
      simp only [HT.out, Bool.false_eq_true, if_false])
    clear hp hnx
    go_enter Tryd.func21, Tryd.ntmps21
    go_wp2_with (first
      | (go_at_call 20; ((with_reducible refine (takeA_calls K k s n q a _ (HS.out _ (by repeat (first | exact Below.refl _ _ | exact (Below.refl _ _).alloc (Nat.le_refl _) _))) HX.out HP.out HK.out).mono ?_); rintro e w1 ⟨rfl, hs1, hg1⟩; have HS1 := Lib.hid hs1; have HG1 := Lib.hid hg1; have h2 := hs1.below ((Below.refl w1.heap.size w1).alloc (Nat.le_refl _) (.cells #[.int .i64 K, .string (bs s), .int .i64 n, .bool q, .int .i64 (a : Int)] 60)); have HS2 := Lib.hid h2; have HK1 := Lib.hid (IsTok.new (v0 := .int .i64 K) (v1 := .string (bs s)) (v2 := .int .i64 n) (v3 := .bool q) (v4 := .int .i64 (a : Int)) w1); clear hs1 hg1 h2))
      | (go_at_call 15; ((with_reducible refine (fail_ok_calls K (bs s) n q a 2 _ HS2.out).mono ?_); rintro e w2 ⟨rfl, hs2, hg2⟩; have HS3 := Lib.hid hs2; have HG2 := Lib.hid hg2; have hk2 := HK1.out.grown hg2 (by have := HS1.out.lt; simp; omega); have HK2 := Lib.hid hk2; have k2 := hk2.c2; clear hs2 hg2 hk2)))
    go_ret
    refine ⟨grown_trans HG1.out (grown_trans (World.grownBy_alloc _ _ _) HG2.out), n, rfl, ?_⟩
    rw [HG.out]
    exact ⟨by omega, nx + 1, by have := HNX.out; have := HN.out; omega, HS3.out⟩
  | true =>
    have HT := Lib.hid (k_yes (n := 3) HK.out h3 rfl)
    obtain rfl : K = 3 := by simpa using h3
    clear h3
    cases hl : decide (n < 0) with
    | true =>
      have HG := Lib.hid (show arityP N (L.drop nx) = (.bad a 4) by
        unfold arityP
        rw [hp]
        simp only [HT.out, hl, Bool.true_or, if_true])
      clear hp hnx
      go_enter Tryd.func21, Tryd.ntmps21
      go_wp2_with (first
        | (go_at_call 20; ((with_reducible refine (takeA_calls 3 k s n q a _ (HS.out _ (by repeat (first | exact Below.refl _ _ | exact (Below.refl _ _).alloc (Nat.le_refl _) _))) HX.out HP.out HK.out).mono ?_); rintro e w1 ⟨rfl, hs1, hg1⟩; have HS1 := Lib.hid hs1; have HG1 := Lib.hid hg1; have h2 := hs1.below ((Below.refl w1.heap.size w1).alloc (Nat.le_refl _) (.cells #[.int .i64 3, .string (bs s), .int .i64 n, .bool q, .int .i64 (a : Int)] 60)); have HS2 := Lib.hid h2; have HK1 := Lib.hid (IsTok.new (v0 := .int .i64 3) (v1 := .string (bs s)) (v2 := .int .i64 n) (v3 := .bool q) (v4 := .int .i64 (a : Int)) w1); clear hs1 hg1 h2))
        | (go_at_call 15; ((with_reducible refine (fail_ok_calls 3 (bs s) n q a 4 _ HS2.out).mono ?_); rintro e w2 ⟨rfl, hs2, hg2⟩; have HS3 := Lib.hid hs2; have HG2 := Lib.hid hg2; have hk2 := HK1.out.grown hg2 (by have := HS1.out.lt; simp; omega); have HK2 := Lib.hid hk2; have k2 := hk2.c2; clear hs2 hg2 hk2)))
      go_ret
      refine ⟨grown_trans HG1.out (grown_trans (World.grownBy_alloc _ _ _) HG2.out), n, rfl, ?_⟩
      rw [HG.out]
      exact ⟨by omega, nx + 1, by have := HNX.out; have := HN.out; omega, HS3.out⟩
    | false =>
      cases hm : decide (6 < n) with
      | true =>
        have HG := Lib.hid (show arityP N (L.drop nx) = (.bad a 4) by
          unfold arityP
          rw [hp]
          simp only [HT.out, hl, hm, Bool.or_true, if_true])
        clear hp hnx
        go_enter Tryd.func21, Tryd.ntmps21
        go_wp2_with (first
          | (go_at_call 20; ((with_reducible refine (takeA_calls 3 k s n q a _ (HS.out _ (by repeat (first | exact Below.refl _ _ | exact (Below.refl _ _).alloc (Nat.le_refl _) _))) HX.out HP.out HK.out).mono ?_); rintro e w1 ⟨rfl, hs1, hg1⟩; have HS1 := Lib.hid hs1; have HG1 := Lib.hid hg1; have h2 := hs1.below ((Below.refl w1.heap.size w1).alloc (Nat.le_refl _) (.cells #[.int .i64 3, .string (bs s), .int .i64 n, .bool q, .int .i64 (a : Int)] 60)); have HS2 := Lib.hid h2; have HK1 := Lib.hid (IsTok.new (v0 := .int .i64 3) (v1 := .string (bs s)) (v2 := .int .i64 n) (v3 := .bool q) (v4 := .int .i64 (a : Int)) w1); clear hs1 hg1 h2))
          | (go_at_call 15; ((with_reducible refine (fail_ok_calls 3 (bs s) n q a 4 _ HS2.out).mono ?_); rintro e w2 ⟨rfl, hs2, hg2⟩; have HS3 := Lib.hid hs2; have HG2 := Lib.hid hg2; have hk2 := HK1.out.grown hg2 (by have := HS1.out.lt; simp; omega); have HK2 := Lib.hid hk2; have k2 := hk2.c2; clear hs2 hg2 hk2)))
        go_ret
        refine ⟨grown_trans HG1.out (grown_trans (World.grownBy_alloc _ _ _) HG2.out), n, rfl, ?_⟩
        rw [HG.out]
        exact ⟨by omega, nx + 1, by have := HNX.out; have := HN.out; omega, HS3.out⟩
      | false =>
        have HG := Lib.hid (show arityP N (L.drop nx) = (.ok n (L.drop nx).tail) by
          unfold arityP
          rw [hp]
          simp only [HT.out, hl, hm, Bool.or_self, Bool.false_eq_true, if_true, if_false])
        have HIN := Lib.hid (next_in hp (by show k ≠ 0; have h1 := HT.out; simp at h1; omega))
        clear hp hnx
        go_enter Tryd.func21, Tryd.ntmps21
        go_wp2_with (first
          | (go_at_call 20; ((with_reducible refine (takeA_calls 3 k s n q a _ (HS.out _ (by repeat (first | exact Below.refl _ _ | exact (Below.refl _ _).alloc (Nat.le_refl _) _))) HX.out HP.out HK.out).mono ?_); rintro e w1 ⟨rfl, hs1, hg1⟩; have HS1 := Lib.hid hs1; have HG1 := Lib.hid hg1; have h2 := hs1.below ((Below.refl w1.heap.size w1).alloc (Nat.le_refl _) (.cells #[.int .i64 3, .string (bs s), .int .i64 n, .bool q, .int .i64 (a : Int)] 60)); have HS2 := Lib.hid h2; have HK1 := Lib.hid (IsTok.new (v0 := .int .i64 3) (v1 := .string (bs s)) (v2 := .int .i64 n) (v3 := .bool q) (v4 := .int .i64 (a : Int)) w1); clear hs1 hg1 h2)))
        go_ret
        refine ⟨grown_trans HG1.out (World.grownBy_alloc _ _ _), n, rfl, ?_⟩
        rw [HG.out]
        exact ⟨rfl, nx + 1, HIN.out, by rw [List.tail_drop], HS2.out⟩

set_option maxRecDepth 100000 in
set_option maxHeartbeats 4000000 in
theorem mark_ok_calls {P : Nat} {L : List TP} {N : Nat} {A : Option Addr} {c : Nat} {r : List TP} (mb : ByteArray) (w : World) (h : PO P L N A c r w) (hm4 : 4 ≤ 4) :
    Calls Tryd.prog 22 #[.pointer (some ⟨P, 0, none⟩), .string mb] w fun e w' => e = .returned (.tuple #[]) ∧ w.grownBy w' (some P) ∧ PGot P L N A c 65537 (markP N mb.data.toList () r) (fun _ => True) w' := by
  obtain ⟨nx, hnx, rfl, hS⟩ := h
  obtain ⟨⟨⟨k, s, n, q⟩, a⟩, hp⟩ : ∃ p, pk N (L.drop nx) 0 = p := ⟨_, rfl⟩
  have hn := hS.n
  have HN := Lib.hid hn
  have HNX := Lib.hid hnx
  have HS := Lib.hid (fun W (hb : Below w.heap.size w W) => hS.below hb)
  have HX := Lib.hid (show nx + 1 ≤ 1000000 by omega)
  have HP := Lib.hid hp
  clear hS hn
  cases hv : isM N (L.drop nx) 0 mb.data.toList with
  | true =>
    have HV := Lib.hid hv
    have HG := Lib.hid (show markP N mb.data.toList () (L.drop nx) = .ok () (L.drop nx).tail by unfold markP; rw [hv]; rfl)
    have HIN := Lib.hid (next_in hp (by
      unfold isM at hv
      rw [hp] at hv
      simp only [Bool.and_eq_true, beq_iff_eq] at hv
      show k ≠ 0
      have h1 : k = 4 := hv.1
      omega))
    clear hv hp hnx
    go_enter Tryd.func22, Tryd.ntmps22
    go_wp2_with (first
      | (go_at_call 23; ((with_reducible refine (is_calls mb true _ (HS.out _ (Below.refl _ _)) HV.out).mono ?_); rintro e w1 ⟨rfl, hb1⟩; have HS1 := Lib.hid (HS.out _ hb1); have HB1 := Lib.hid hb1; clear hb1))
      | (go_at_call 20; ((with_reducible refine (takeA_calls _ k s n q a _ HS1.out HX.out HP.out rfl).mono ?_); rintro e w4 ⟨rfl, hs4, hg4⟩; have HS4 := Lib.hid hs4; have HG4 := Lib.hid hg4; clear hs4 hg4)))
    go_end0
    refine ⟨rfl, grown_trans (grown_below HB1.out _) HG4.out, ?_⟩
    rw [HG.out]
    exact ⟨trivial, nx + 1, HIN.out, by rw [List.tail_drop], HS4.out⟩
  | false =>
    have HV := Lib.hid hv
    have HG := Lib.hid (show markP N mb.data.toList () (L.drop nx) = .bad a 2 by unfold markP; rw [hv, hp]; rfl)
    clear hv hp hnx
    go_enter Tryd.func22, Tryd.ntmps22
    go_wp2_with (first
      | (go_at_call 23; ((with_reducible refine (is_calls mb false _ (HS.out _ (Below.refl _ _)) HV.out).mono ?_); rintro e w1 ⟨rfl, hb1⟩; have HS1 := Lib.hid (HS.out _ hb1); have HB1 := Lib.hid hb1; clear hb1))
      | (go_at_call 16; ((with_reducible refine (peek0_calls ⟨k, s, n, q⟩ a _ HS1.out HP.out).mono ?_); rintro e w2 ⟨rfl, hb2⟩; have HS2 := Lib.hid (HS1.out.below hb2); have HB2 := Lib.hid hb2; clear hb2))
      | (go_at_call 15; ((with_reducible refine (fail_ok_calls _ (bs s) n q a 2 _ HS2.out).mono ?_); rintro e w3 ⟨rfl, hs3, hg3⟩; have HS3 := Lib.hid hs3; have HG3 := Lib.hid hg3; clear hs3 hg3))
      | (go_at_call 20; ((with_reducible refine (takeA_calls _ k s n q a _ HS3.out HX.out HP.out rfl).mono ?_); rintro e w4 ⟨rfl, hs4, hg4⟩; have HS4 := Lib.hid hs4; have HG4 := Lib.hid hg4; clear hs4 hg4)))
    go_end0
    refine ⟨rfl, grown_trans (grown_below HB1.out _) (grown_trans (grown_below HB2.out _) (grown_trans HG3.out HG4.out)), ?_⟩
    rw [HG.out]
    exact ⟨by omega, nx + 1, by have := HNX.out; have := HN.out; omega, HS4.out⟩

set_option maxRecDepth 100000 in
set_option maxHeartbeats 4000000 in
theorem mark_bad_calls {P : Nat} {L : List TP} {N : Nat} {A : Option Addr} {c a0 e0 m : Nat} (mb : ByteArray) (w : World) (h : PB P L N A c a0 e0 m w) (hm : m + 1 ≤ 1000000) :
    Calls Tryd.prog 22 #[.pointer (some ⟨P, 0, none⟩), .string mb] w fun e w' => e = .returned (.tuple #[]) ∧ w.grownBy w' (some P) ∧ PB P L N A c a0 e0 (m + 1) w' := by
  obtain ⟨he0, nx, hnx, hS⟩ := h
  obtain ⟨⟨⟨k, s, n, q⟩, a⟩, hp⟩ : ∃ p, pk N (L.drop nx) 0 = p := ⟨_, rfl⟩
  have HS := Lib.hid (fun W (hb : Below w.heap.size w W) => hS.below hb)
  have HX := Lib.hid (show nx + 1 ≤ 1000000 by omega)
  have HNX := Lib.hid hnx
  have HP := Lib.hid hp
  have HBB := Lib.hid (show ((e0 : Int) == 0) = false by simp; omega)
  clear hS
  cases hv : isM N (L.drop nx) 0 mb.data.toList with
  | true =>
    have HV := Lib.hid hv
    clear hv hp hnx
    go_enter Tryd.func22, Tryd.ntmps22
    go_wp2_with (first
      | (go_at_call 23; ((with_reducible refine (is_calls mb true _ (HS.out _ (Below.refl _ _)) HV.out).mono ?_); rintro e w1 ⟨rfl, hb1⟩; have HS1 := Lib.hid (HS.out _ hb1); have HB1 := Lib.hid hb1; clear hb1))
      | (go_at_call 20; ((with_reducible refine (takeA_calls _ k s n q a _ HS1.out HX.out HP.out rfl).mono ?_); rintro e w4 ⟨rfl, hs4, hg4⟩; have HS4 := Lib.hid hs4; have HG4 := Lib.hid hg4; clear hs4 hg4)))
    go_end0
    exact ⟨rfl, grown_trans (grown_below HB1.out _) HG4.out, he0, nx + 1, by have := HNX.out; omega, HS4.out⟩
  | false =>
    have HV := Lib.hid hv
    clear hv hp hnx
    go_enter Tryd.func22, Tryd.ntmps22
    go_wp2_with (first
      | (go_at_call 23; ((with_reducible refine (is_calls mb false _ (HS.out _ (Below.refl _ _)) HV.out).mono ?_); rintro e w1 ⟨rfl, hb1⟩; have HS1 := Lib.hid (HS.out _ hb1); have HB1 := Lib.hid hb1; clear hb1))
      | (go_at_call 16; ((with_reducible refine (peek0_calls ⟨k, s, n, q⟩ a _ HS1.out HP.out).mono ?_); rintro e w2 ⟨rfl, hb2⟩; have HS2 := Lib.hid (HS1.out.below hb2); have HB2 := Lib.hid hb2; clear hb2))
      | (go_at_call 15; ((with_reducible refine (fail_bad_calls _ (bs s) n q a 2 _ HS2.out HBB.out).mono ?_); rintro e w3 ⟨rfl, hb3⟩; have HS3 := Lib.hid (HS2.out.below hb3); have HB3 := Lib.hid hb3; clear hb3))
      | (go_at_call 20; ((with_reducible refine (takeA_calls _ k s n q a _ HS3.out HX.out HP.out rfl).mono ?_); rintro e w4 ⟨rfl, hs4, hg4⟩; have HS4 := Lib.hid hs4; have HG4 := Lib.hid hg4; clear hs4 hg4)))
    go_end0
    exact ⟨rfl, grown_trans (grown_below HB1.out _) (grown_trans (grown_below HB2.out _) (grown_trans (grown_below HB3.out _) HG4.out)), he0, nx + 1, by have := HNX.out; omega, HS4.out⟩

def ops6 : List ByteArray := [⟨#[61]⟩, ⟨#[33, 61]⟩, ⟨#[60]⟩, ⟨#[60, 61]⟩, ⟨#[62]⟩, ⟨#[62, 61]⟩]
theorem ops6_has (s : List UInt8) : Lib.containsS (ops6.take 6) (bs s) = opL s := by
  rw [Bool.eq_iff_iff, Lib.containsS_iff]
  unfold ops6 opL
  have e : ∀ l : List UInt8, (bs s = ⟨l.toArray⟩) ↔ (s = l) := fun l => by
    unfold bs
    constructor
    · intro h
      have h2 := congrArg (fun b : ByteArray => b.data.toList) h
      exact h2
    · intro h
      rw [h]
  have e1 := e [61]; have e2 := e [33, 61]; have e3 := e [60]; have e4 := e [60, 61]; have e5 := e [62]; have e6 := e [62, 61]
  simp only [List.take, List.mem_cons, List.not_mem_nil, or_false, Bool.or_eq_true, beq_iff_eq]
  rw [show (bs s = ⟨#[61]⟩) ↔ s = [61] from e1, show (bs s = ⟨#[33, 61]⟩) ↔ s = [33, 61] from e2, show (bs s = ⟨#[60]⟩) ↔ s = [60] from e3, show (bs s = ⟨#[60, 61]⟩) ↔ s = [60, 61] from e4, show (bs s = ⟨#[62]⟩) ↔ s = [62] from e5, show (bs s = ⟨#[62, 61]⟩) ↔ s = [62, 61] from e6]
  simp only [or_assoc]
theorem heap_new2 (w : World) (o p : Obj) : ((w.alloc o).alloc p).heap[w.heap.size + 1]? = some p := by
  have h := heap_alloc_new (w.alloc o) p
  rwa [show (w.alloc o).heap.size = w.heap.size + 1 by simp] at h
theorem contains6_calls (b : Nat) (s : List UInt8) (v : Bool) (w : World) (hb : w.heap[b]? = some (.cells #[.string ⟨#[61]⟩, .string ⟨#[33, 61]⟩, .string ⟨#[60]⟩, .string ⟨#[60, 61]⟩, .string ⟨#[62]⟩, .string ⟨#[62, 61]⟩] 9 (0, 0))) (hv : opL s = v) :
    Calls Tryd.prog 50 #[.slice (some ⟨b, 0, none⟩) 6 6, .string (bs s)] w fun e w' => e = .returned (.bool v) ∧ w' = w := by
  rw [← hv, ← ops6_has]
  refine Tryd.slices_Contains_string b 0 6 6 ops6 (bs s) w (by decide) (by decide) ?_
  intro j hj
  match j, hj with
  | 0, _ => exact cell_of_row w b 0 _ _ _ hb
  | 1, _ => exact cell_of_row w b 1 _ _ _ hb
  | 2, _ => exact cell_of_row w b 2 _ _ _ hb
  | 3, _ => exact cell_of_row w b 3 _ _ _ hb
  | 4, _ => exact cell_of_row w b 4 _ _ _ hb
  | 5, _ => exact cell_of_row w b 5 _ _ _ hb
  | j + 6, hj => exact absurd hj (by simp [ops6])
theorem peekK0_calls {P : Nat} {L : List TP} {N nx : Nat} {pl bad : Int} {A : Option Addr} {c : Nat} (K : Int) (k : Nat) (s : List UInt8) (n : Int) (q : Bool) (a : Nat) (w : World) (h : PS P L N nx pl bad A c w) (hp : pk N (L.drop nx) 0 = (⟨k, s, n, q⟩, a)) (hK : (k : Int) = K) :
    Calls Tryd.prog 16 #[.pointer (some ⟨P, 0, none⟩), .int .i64 0] w fun e w' => e = .returned (.agg #[.int .i64 K, .string (bs s), .int .i64 n, .bool q, .int .i64 (a : Int)]) ∧ Below w.heap.size w w' := by rw [← hK]; exact peek0_calls _ a w h hp
set_option maxRecDepth 100000 in
set_option maxHeartbeats 4000000 in
theorem operates0_calls {P : Nat} {L : List TP} {N nx : Nat} {pl bad : Int} {A : Option Addr} {c : Nat} (v : Bool) (w : World) (h : PS P L N nx pl bad A c w) (hv : isO N (L.drop nx) 0 = v) :
    Calls Tryd.prog 32 #[.pointer (some ⟨P, 0, none⟩), .int .i64 0] w fun e w' => e = .returned (.bool v) ∧ Below w.heap.size w w' := by
  obtain ⟨⟨⟨k, s, n, q⟩, a⟩, hp⟩ : ∃ p, pk N (L.drop nx) 0 = p := ⟨_, rfl⟩
  obtain ⟨K, hK⟩ : ∃ K : Int, (k : Int) = K := ⟨_, rfl⟩
  have HK := Lib.hid hK
  unfold isO at hv
  rw [hp] at hv
  have HS := Lib.hid h
  have HP := Lib.hid hp
  have HV := Lib.hid hv
  clear h hv hp hK
  cases h4 : (K == 4) with
  | false =>
    have HT := Lib.hid (k_no (n := 4) HK.out h4 rfl)
    go_enter Tryd.func32, Tryd.ntmps32
    go_wp2_with (first
      | (go_at_call 16; ((with_reducible refine (peekK0_calls K k s n q a _ HS.out HP.out HK.out).mono ?_); rintro e w1 ⟨rfl, hb1⟩; have HB1 := Lib.hid hb1; clear hb1)))
    go_ret
    exact ⟨by rw [← HV.out, HT.out]; rfl, HB1.out.alloc HB1.out.size _⟩
  | true =>
    have HT := Lib.hid (k_yes (n := 4) HK.out h4 rfl)
    obtain rfl : K = 4 := by simpa using h4
    clear h4
    cases ho : opL s with
    | true =>
      have HO := Lib.hid ho
      go_enter Tryd.func32, Tryd.ntmps32
      go_wp2_with (first
        | (go_at_call 16; ((with_reducible refine (peekK0_calls 4 k s n q a _ HS.out HP.out HK.out).mono ?_); rintro e w1 ⟨rfl, hb1⟩; have HB1 := Lib.hid hb1; clear hb1))
        | (go_at_call 50; ((with_reducible refine (contains6_calls _ s true _ ?_ HO.out).mono ?_); (focus (exact heap_new2 _ _ _)); rintro e w2 ⟨rfl, hw⟩; rw [hw]; clear hw)))
      go_ret
      exact ⟨by rw [← HV.out, HT.out, HO.out]; rfl, (HB1.out.alloc HB1.out.size _).alloc (by have := HB1.out.size; simp; omega) _⟩
    | false =>
      have HO := Lib.hid ho
      go_enter Tryd.func32, Tryd.ntmps32
      go_wp2_with (first
        | (go_at_call 16; ((with_reducible refine (peekK0_calls 4 k s n q a _ HS.out HP.out HK.out).mono ?_); rintro e w1 ⟨rfl, hb1⟩; have HB1 := Lib.hid hb1; clear hb1))
        | (go_at_call 50; ((with_reducible refine (contains6_calls _ s false _ ?_ HO.out).mono ?_); (focus (exact heap_new2 _ _ _)); rintro e w2 ⟨rfl, hw⟩; rw [hw]; clear hw)))
      go_ret
      exact ⟨by rw [← HV.out, HT.out, HO.out]; rfl, (HB1.out.alloc HB1.out.size _).alloc (by have := HB1.out.size; simp; omega) _⟩
theorem peekK1_calls {P : Nat} {L : List TP} {N nx : Nat} {pl bad : Int} {A : Option Addr} {c : Nat} (K : Int) (k : Nat) (s : List UInt8) (n : Int) (q : Bool) (a : Nat) (w : World) (h : PS P L N nx pl bad A c w) (hp : pk N (L.drop nx) 1 = (⟨k, s, n, q⟩, a)) (hK : (k : Int) = K) :
    Calls Tryd.prog 16 #[.pointer (some ⟨P, 0, none⟩), .int .i64 1] w fun e w' => e = .returned (.agg #[.int .i64 K, .string (bs s), .int .i64 n, .bool q, .int .i64 (a : Int)]) ∧ Below w.heap.size w w' := by rw [← hK]; exact peek1_calls _ a w h hp
set_option maxRecDepth 100000 in
set_option maxHeartbeats 4000000 in
theorem operates1_calls {P : Nat} {L : List TP} {N nx : Nat} {pl bad : Int} {A : Option Addr} {c : Nat} (v : Bool) (w : World) (h : PS P L N nx pl bad A c w) (hv : isO N (L.drop nx) 1 = v) :
    Calls Tryd.prog 32 #[.pointer (some ⟨P, 0, none⟩), .int .i64 1] w fun e w' => e = .returned (.bool v) ∧ Below w.heap.size w w' := by
  obtain ⟨⟨⟨k, s, n, q⟩, a⟩, hp⟩ : ∃ p, pk N (L.drop nx) 1 = p := ⟨_, rfl⟩
  obtain ⟨K, hK⟩ : ∃ K : Int, (k : Int) = K := ⟨_, rfl⟩
  have HK := Lib.hid hK
  unfold isO at hv
  rw [hp] at hv
  have HS := Lib.hid h
  have HP := Lib.hid hp
  have HV := Lib.hid hv
  clear h hv hp hK
  cases h4 : (K == 4) with
  | false =>
    have HT := Lib.hid (k_no (n := 4) HK.out h4 rfl)
    go_enter Tryd.func32, Tryd.ntmps32
    go_wp2_with (first
      | (go_at_call 16; ((with_reducible refine (peekK1_calls K k s n q a _ HS.out HP.out HK.out).mono ?_); rintro e w1 ⟨rfl, hb1⟩; have HB1 := Lib.hid hb1; clear hb1)))
    go_ret
    exact ⟨by rw [← HV.out, HT.out]; rfl, HB1.out.alloc HB1.out.size _⟩
  | true =>
    have HT := Lib.hid (k_yes (n := 4) HK.out h4 rfl)
    obtain rfl : K = 4 := by simpa using h4
    clear h4
    cases ho : opL s with
    | true =>
      have HO := Lib.hid ho
      go_enter Tryd.func32, Tryd.ntmps32
      go_wp2_with (first
        | (go_at_call 16; ((with_reducible refine (peekK1_calls 4 k s n q a _ HS.out HP.out HK.out).mono ?_); rintro e w1 ⟨rfl, hb1⟩; have HB1 := Lib.hid hb1; clear hb1))
        | (go_at_call 50; ((with_reducible refine (contains6_calls _ s true _ ?_ HO.out).mono ?_); (focus (exact heap_new2 _ _ _)); rintro e w2 ⟨rfl, hw⟩; rw [hw]; clear hw)))
      go_ret
      exact ⟨by rw [← HV.out, HT.out, HO.out]; rfl, (HB1.out.alloc HB1.out.size _).alloc (by have := HB1.out.size; simp; omega) _⟩
    | false =>
      have HO := Lib.hid ho
      go_enter Tryd.func32, Tryd.ntmps32
      go_wp2_with (first
        | (go_at_call 16; ((with_reducible refine (peekK1_calls 4 k s n q a _ HS.out HP.out HK.out).mono ?_); rintro e w1 ⟨rfl, hb1⟩; have HB1 := Lib.hid hb1; clear hb1))
        | (go_at_call 50; ((with_reducible refine (contains6_calls _ s false _ ?_ HO.out).mono ?_); (focus (exact heap_new2 _ _ _)); rintro e w2 ⟨rfl, hw⟩; rw [hw]; clear hw)))
      go_ret
      exact ⟨by rw [← HV.out, HT.out, HO.out]; rfl, (HB1.out.alloc HB1.out.size _).alloc (by have := HB1.out.size; simp; omega) _⟩
end Go.Proofs.YthhfjimhfehimaaDoor.V
