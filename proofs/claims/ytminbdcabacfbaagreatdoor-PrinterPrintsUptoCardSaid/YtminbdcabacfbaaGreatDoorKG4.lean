/- strings.Join, and printer.together: texts put together. Programs in memory, to be read. The parser's state; (*stream).peek, take, is, operates; (*parser).fail, ok, mark. The document's Plain. Printed by genrefp.py. Blocks of the document's parser; its name and term. (printed by gen_r6b.py) The document's figures of a number are strconv's. A value's block. The document's Text is the text. The printed tokens, parsed: with no program in sight. value.Int. -/
import Derived.IntWalk
import Derived.LoopTactic
import Derived.WalkSmall
import Derived.WalkLawsBesides
import Derived.Outline
import Derived.Lib.Hide
import Derived.BigQuiet
import Derived.Deep.QuietTactic
import Derived.Lib.ItoaLen
import Derived.Deep.RegionWith
import Derived.Test.YtminbdcabacfbaaGreatDoorKG3
namespace Go.Proofs.YtminbdcabacfbaaGreatDoor.V
set_option linter.unusedVariables false
set_option linter.unusedSimpArgs false
open Go.RowKit

/-- Texts that lie one behind the other. -/
def StrsAt (w : World) (A : Option Addr) (L : List ByteArray) : Prop := ∀ (j : Nat) (x : ByteArray), L[j]? = some x → ∃ a, A = some a ∧ w.cell? (a.add j) = some (.string x)
theorem StrsAt.below {w w' : World} {A : Option Addr} {L : List ByteArray} (h : StrsAt w A L) (hb : Below w.heap.size w w') : StrsAt w' A L := by
  intro j x hx
  obtain ⟨a, ha, hc⟩ := h j x hx
  exact ⟨a, ha, cell_below hb hc⟩
def txs (L : List ByteArray) : List (List UInt8) := L.map (·.data.toList)
/-- Each with the separator ahead. -/
def tailT (m : List UInt8) (L : List (List UInt8)) : List UInt8 := L.flatMap fun x => m ++ x
def lenT (L : List (List UInt8)) : Nat := (L.map (·.length)).sum
theorem sepT_cons (m x : List UInt8) (r : List (List UInt8)) : sepT m (x :: r) = x ++ tailT m r := by
  induction r generalizing x with
  | nil => simp [sepT, tailT]
  | cons y r ih =>
    rw [sepT, ih]
    simp [tailT]
theorem sepT_none (r : List (List UInt8)) : sepT [] r = r.flatten := by
  cases r with
  | nil => rfl
  | cons x r => rw [sepT_cons]; simp [tailT, List.flatMap_def]
theorem tailT_length (m : List UInt8) (r : List (List UInt8)) : (tailT m r).length = m.length * r.length + lenT r := by
  induction r with
  | nil => simp [tailT, lenT]
  | cons x r ih =>
    unfold tailT lenT at *
    rw [List.flatMap_cons, List.length_append, List.length_append, ih, List.map_cons, List.sum_cons, List.length_cons, Nat.mul_succ]
    omega
theorem tailT_snoc (m : List UInt8) (L : List (List UInt8)) (k : Nat) (x : List UInt8) (h : L[k]? = some x) : tailT m (L.take (k + 1)) = tailT m (L.take k) ++ (m ++ x) := by
  unfold tailT
  rw [List.take_add_one, List.flatMap_append, h]
  simp
theorem tailT_le (m : List UInt8) (L : List (List UInt8)) (k : Nat) : (tailT m (L.take k)).length ≤ (tailT m L).length := by
  conv => rhs; rw [← List.take_append_drop k L]
  unfold tailT
  rw [List.flatMap_append, List.length_append]
  omega
theorem lenT_snoc (L : List (List UInt8)) (k : Nat) (x : List UInt8) (h : L[k]? = some x) : lenT (L.take (k + 1)) = lenT (L.take k) + x.length := by
  unfold lenT
  rw [List.take_add_one, List.map_append, List.sum_append, h]
  simp
theorem lenT_le (L : List (List UInt8)) (k : Nat) : lenT (L.take k) ≤ lenT L := by
  conv => rhs; rw [← List.take_append_drop k L]
  unfold lenT
  rw [List.map_append, List.sum_append]
  omega
theorem size_data (s : ByteArray) : s.size = s.data.toList.length := by simp

set_option maxRecDepth 100000 in
set_option maxHeartbeats 8000000 in
theorem sjoin_calls (A : Option Addr) (n c : Nat) (L : List ByteArray) (sep : ByteArray) (w : World) (hn : n = L.length) (hT : StrsAt w A L) (hbig : (sepT sep.data.toList (txs L)).length ≤ 140737488355328) (hn2 : n ≤ 140737488355328) (hc : n ≤ c) :
    Calls Tryz.prog 74 #[.slice A n c, .string sep] w fun e w' => e = .returned (.string (bs (sepT sep.data.toList (txs L)))) ∧ Below w.heap.size w w' := by
  rcases L with _ | ⟨x, _ | ⟨x1, r⟩⟩
  · subst hn
    go_enter Tryz.func74, Tryz.ntmps74
    go_wp2_with fail
    go_ret
    exact ⟨rfl, Below.refl _ _⟩
  · subst hn
    obtain ⟨a, rfl, d0⟩ := hT 0 x rfl
    have d1 : w.cell? a = some (.string x) := d0
    go_enter Tryz.func74, Tryz.ntmps74
    go_wp2_with fail
    go_ret
    exact ⟨by rw [show bs (sepT sep.data.toList (txs [x])) = x from of_bytes x]; rfl, Below.refl _ _⟩
  · obtain ⟨R, hR⟩ : ∃ R, x1 :: r = R := ⟨_, rfl⟩
    have hnR : n = R.length + 1 := by rw [hn, ← hR]; simp
    have hRp : 1 ≤ R.length := by rw [← hR]; simp
    rw [hR] at hT hbig ⊢
    clear hR hn
    obtain ⟨a, rfl, d0⟩ := hT 0 x rfl
    have hj := hbig
    rw [txs, List.map_cons, sepT_cons, List.length_append, tailT_length, List.length_map, ← size_data, ← size_data] at hj
    obtain ⟨M, hM⟩ : ∃ M, sep.size * R.length = M := ⟨_, rfl⟩
    rw [hM] at hj
    have hcast : ((n : Int) - 1) = ((R.length : Nat) : Int) := by omega
    have hlt : sep.size + 1 ≤ 9223372036854775807 / R.length := by
      rw [Nat.le_div_iff_mul_le (by omega), Nat.add_mul, hM]
      omega
    have hdv : decide ((9223372036854775807 : Int) / ((n : Int) - 1) ≤ (sep.size : Int)) = false := by
      have e : (9223372036854775807 : Int) / ((R.length : Nat) : Int) = ((9223372036854775807 / R.length : Nat) : Int) := IntWalk.up_div (x := 9223372036854775807) rfl rfl
      rw [hcast, e]
      refine decide_eq_false ?_
      generalize 9223372036854775807 / R.length = q at hlt
      omega
    have hdv2 : ¬ (9223372036854775807 : Int) / ((n : Int) - 1) ≤ (sep.size : Int) := of_decide_eq_false hdv
    have hprod : wrap64 ((sep.size : Int) * ((n : Int) - 1)) = (M : Int) := by
      have e : (sep.size : Int) * ((R.length : Nat) : Int) = ((sep.size * R.length : Nat) : Int) := IntWalk.up_mul rfl rfl
      rw [hcast, e, hM]
      exact IntWalk.wrap64_in _ ⟨by omega, by omega⟩
    have hM0 : sep.size = 0 → M = 0 := fun h => by rw [← hM, h, Nat.zero_mul]
    have hn1 : 2 ≤ n := by omega
    have hne0 : ((n : Int) == 0) = false := beq_eq_false_iff_ne.2 (by omega)
    have hne1 : ((n : Int) == 1) = false := beq_eq_false_iff_ne.2 (by omega)
    have hMb : M ≤ 140737488355328 := by omega
    have HT := Lib.hid hT
    have HBIG := Lib.hid hbig
    have HNR := Lib.hid hnR
    have HM0 := Lib.hid hM0
    have HJ := Lib.hid hj
    clear hlt hcast hT hbig hnR hM hM0 hj
    cases hsd : decide (0 < sep.size)
    all_goals
      have HSD := Lib.hid hsd
      go_enter Tryz.func74, Tryz.ntmps74
      go_wp2_with fail
      go_loop [5, 41] (fun v i => ∃ k : Nat, k ≤ n ∧ i = .int .i64 (k : Int) ∧ v = .int .i64 ((M + lenT ((txs (x :: R)).take k) : Nat) : Int)) (fun _ i => n + 1 - (intOf i).toNat)
      case atStart => exact ⟨0, Nat.zero_le _, rfl, by first | (have h0 := HM0.out (by have := of_decide_eq_false HSD.out; omega); rw [h0]; rfl) | (simp [lenT]; done)⟩
      case round =>
        obtain ⟨k, hk, rfl, rfl⟩ := hrel
        by_cases hlt : k < n
        · have hd : decide ((k : Int) < (n : Int)) = true := decide_eq_true (by omega)
          obtain ⟨y, hx⟩ : ∃ y, (x :: R)[k]? = some y := ⟨_, List.getElem?_eq_getElem (by rw [List.length_cons, ← HNR.out]; exact hlt)⟩
          obtain ⟨a', e, dk⟩ := HT.out k y hx
          cases e
          have hst := lenT_snoc (txs (x :: R)) k y.data.toList (by rw [txs, List.getElem?_map, hx]; rfl)
          have hle := lenT_le (txs (x :: R)) (k + 1)
          have hjj := HJ.out
          have hall : lenT (txs (x :: R)) = x.size + lenT (List.map (fun x => x.data.toList) R) := by unfold txs lenT; rw [List.map_cons, List.map_cons, List.sum_cons, ← size_data]
          obtain ⟨B, hB⟩ : ∃ B, lenT ((txs (x :: R)).take k) = B := ⟨_, rfl⟩
          rw [hB] at hst ⊢
          have HST := Lib.hid (show M + lenT ((txs (x :: R)).take (k + 1)) = M + B + y.size by rw [hst, size_data]; omega)
          have hb1 : M + B + y.size ≤ 140737488355328 := by rw [size_data]; omega
          have hd2 : decide ((9223372036854775807 : Int) - ((M + B : Nat) : Int) < (y.size : Int)) = false := decide_eq_false (by omega)
          clear hst hle hjj hall hB hx
          go_wp2_with fail
          exact ⟨⟨k + 1, hlt, by simp, by rw [HST.out]; simp⟩, by simp [intOf]; omega⟩
        · have hkn : k = n := by omega
          subst hkn
          have hd : decide ((k : Int) < (k : Int)) = false := decide_eq_false (by omega)
          have htk : (txs (x :: R)).take k = txs (x :: R) := List.take_of_length_le (by rw [txs, List.length_map, List.length_cons, ← HNR.out]; exact Nat.le_refl _)
          rw [htk]
          have hjj := HJ.out
          have hall : lenT (txs (x :: R)) = x.size + lenT (List.map (fun x => x.data.toList) R) := by unfold txs lenT; rw [List.map_cons, List.map_cons, List.sum_cons, ← size_data]
          obtain ⟨T, hT⟩ : ∃ T, M + lenT (txs (x :: R)) = T := ⟨_, rfl⟩
          have hTb : T ≤ 140737488355328 := by omega
          have hxb : x.size ≤ 140737488355328 := by omega
          rw [hT]
          have HGR := Lib.hid (Tryz.Builder_Grow_fresh w.heap.size w.heap.size T (w.alloc (.cells #[.pointer none, .slice none 0 0] 84)) (Nat.le_refl _) (heap_alloc_new w _) (by simp) (by omega))
          have hbl0 := (Below.refl w.heap.size w).alloc (Nat.le_refl _) (.cells #[.pointer none, .slice none 0 0] 84)
          have HB0 := Lib.hid hbl0
          have hR0 : 0 < R.length := hRp
          have hnk : (k : Int) - 1 = (R.length : Int) := by have := HNR.out; omega
          have hD0 := Lib.hid (show w.cell? a = some (.string x) from d0)
          clear hd htk hjj hall hT hlt hbl0 d0
          go_wp2_with (first
            | (go_at_call 104; ((with_reducible refine HGR.out.mono ?_); rintro e w1 ⟨rfl, h1, hb1⟩; have H1 := Lib.hid (show IsBld w.heap.size w.heap.size [] w1 from .inr (Lib.BuilderAtF.of h1)); have HB1 := Lib.hid (HB0.out.trans hb1); have e0 := cell_below HB1.out hD0.out; clear h1 hb1))
            | (go_at_call 39; ((with_reducible refine (bwrite_calls _ _ _ _ _ H1.out (by simpa using hxb) HB1.out.size).mono ?_); rintro e w2 ⟨rfl, h2, hb2⟩; rw [List.nil_append, Lib.strCells_eq] at h2; have H2 := Lib.hid h2; have HB2 := Lib.hid (HB1.out.trans hb2); clear h2 hb2 e0)))
          have HC := Lib.hid (show ∀ j, (x.data.toList ++ tailT sep.data.toList ((txs R).take j)).length ≤ 140737488355328 from fun j => by
            have h1 := HBIG.out
            rw [show txs (x :: R) = x.data.toList :: txs R from rfl, sepT_cons, List.length_append] at h1
            have h2 := tailT_le sep.data.toList (txs R) j
            rw [List.length_append]
            omega)
          go_loopw [65] (fun i wr => ∃ j : Nat, j ≤ R.length ∧ i = .int .i64 (j : Int) ∧ IsBld w.heap.size w.heap.size (Lib.byteCells (x.data.toList ++ tailT sep.data.toList ((txs R).take j))) wr ∧ Below w.heap.size w wr) (fun i _ => R.length + 1 - (intOf i).toNat)
          case atStart => exact ⟨0, Nat.zero_le _, rfl, .inr (by simpa [tailT] using H2.out), HB2.out⟩
          case round =>
            obtain ⟨j, hj, rfl, hbld, hb⟩ := hrel
            have HBD := Lib.hid hbld
            have HB := Lib.hid hb
            by_cases hlt : j < R.length
            · have hd : decide ((j : Int) < (R.length : Int)) = true := decide_eq_true (by omega)
              obtain ⟨y, hx⟩ : ∃ y, R[j]? = some y := ⟨_, List.getElem?_eq_getElem hlt⟩
              obtain ⟨a', e, dk⟩ := HT.out (j + 1) y (by simpa using hx)
              cases e
              have dk2 := cell_below hb dk
              have dk3 : wr.cell? ⟨a.block, a.off + 1 + j, none⟩ = some (.string y) := by
                rw [show a.off + 1 + j = a.off + (j + 1) by omega]
                exact dk2
              have hsn := tailT_snoc sep.data.toList (txs R) j y.data.toList (by rw [txs, List.getElem?_map, hx]; rfl)
              have hle := HC.out (j + 1)
              rw [hsn] at hle
              have HSN := Lib.hid (show x.data.toList ++ tailT sep.data.toList ((txs R).take (j + 1)) = x.data.toList ++ tailT sep.data.toList ((txs R).take j) ++ (sep.data.toList ++ y.data.toList) by rw [hsn, List.append_assoc])
              have HL1 := Lib.hid (show (Lib.byteCells (x.data.toList ++ tailT sep.data.toList ((txs R).take j))).length + sep.size ≤ 140737488355328 by
                rw [Lib.byteCells_length, size_data]
                simp only [List.length_append] at hle ⊢
                omega)
              have HL2 := Lib.hid (show (Lib.byteCells (x.data.toList ++ tailT sep.data.toList ((txs R).take j)) ++ Lib.strCells sep).length + y.size ≤ 140737488355328 by
                rw [List.length_append, Lib.byteCells_length, Lib.strCells_length, size_data, size_data]
                simp only [List.length_append] at hle ⊢
                omega)
              clear hbld hb hsn hle hx
              go_wp2_with (first
                | (go_at_call 39; ((with_reducible refine (bwrite_calls _ _ _ sep _ HBD.out HL1.out HB.out.size).mono ?_); rintro e w3 ⟨rfl, h3, hb3⟩; have H3 := Lib.hid (show IsBld w.heap.size w.heap.size _ w3 from Or.inr h3); have HB3 := Lib.hid (HB.out.trans hb3); clear h3 hb3))
                | (go_at_call 39; ((with_reducible refine (bwrite_calls _ _ _ y _ H3.out HL2.out HB3.out.size).mono ?_); rintro e w4 ⟨rfl, h4, hb4⟩; rw [Lib.strCells_eq, Lib.strCells_eq, List.append_assoc, ← byteCells_app, ← byteCells_app, ← HSN.out] at h4; have H4 := Lib.hid h4; have HB4 := Lib.hid (HB3.out.trans hb4); clear h4 hb4)))
              go_roundw
              case rel => exact ⟨j + 1, hlt, by simp, .inr H4.out, HB4.out⟩
              case measure => simp [intOf]; omega
            · have hkn : j = R.length := by omega
              subst hkn
              have hd : decide ((R.length : Int) < (R.length : Int)) = false := decide_eq_false (by omega)
              have htk : (txs R).take R.length = txs R := List.take_of_length_le (by rw [txs, List.length_map]; exact Nat.le_refl _)
              rw [htk, ← sepT_cons] at hbld
              have HBD := Lib.hid hbld
              clear hb hlt hj hbld htk
              go_wp2_with (go_at_call 42; ((with_reducible refine (Tryz.Builder_String_any_k _ _ _ _ HBD.out HB.out.size).mono ?_); rintro e w5 ⟨rfl, _, hb5, _⟩; have HB5 := Lib.hid (HB.out.trans hb5); clear hb5))
              go_ret
              exact ⟨rfl, HB5.out⟩
end Go.Proofs.YtminbdcabacfbaaGreatDoor.V

namespace Go.Proofs.YtminbdcabacfbaaGreatDoor.V
set_option linter.unusedVariables false
set_option linter.unusedSimpArgs false
open Go.RowKit

structure TermHere (w : World) (a : Addr) (t : TermL) : Prop where
  c0 : w.cell? a = some (.bool t.v)
  c1 : w.cell? ⟨a.block, a.off + 1, none⟩ = some (.string (bs t.x))
  c2 : w.cell? ⟨a.block, a.off + 2, none⟩ = some (.bool t.s)
  c3 : w.cell? ⟨a.block, a.off + 3, none⟩ = some (.string (bs t.t))
  c4 : w.cell? ⟨a.block, a.off + 4, none⟩ = some (.int .i64 t.n)
theorem TermHere.below {w w' : World} {a : Addr} {t : TermL} (h : TermHere w a t) (hb : Below w.heap.size w w') : TermHere w' a t :=
  ⟨cell_below hb h.c0, cell_below hb h.c1, cell_below hb h.c2, cell_below hb h.c3, cell_below hb h.c4⟩
def TermsRd (w : World) (A : Option Addr) (L : List TermL) : Prop := ∀ (j : Nat) (t : TermL), L[j]? = some t → ∃ a, A = some a ∧ TermHere w (a.add (j * 5)) t
theorem TermsRd.below {w w' : World} {A : Option Addr} {L : List TermL} (h : TermsRd w A L) (hb : Below w.heap.size w w') : TermsRd w' A L := fun j t hj => by
  obtain ⟨a, h1, h2⟩ := h j t hj
  exact ⟨a, h1, h2.below hb⟩
/-- An atom that lies at an address. -/
def AtomHere (w : World) (a : Addr) (x : AtomL) : Prop := ∃ A n c, n = x.a.length ∧ n ≤ c ∧ w.cell? a = some (.string (bs x.p)) ∧ w.cell? ⟨a.block, a.off + 1, none⟩ = some (.slice A n c) ∧ TermsRd w A x.a
theorem AtomHere.below {w w' : World} {a : Addr} {x : AtomL} (h : AtomHere w a x) (hb : Below w.heap.size w w') : AtomHere w' a x := by
  obtain ⟨A, n, c, h1, h2, h3, h4, h5⟩ := h
  exact ⟨A, n, c, h1, h2, cell_below hb h3, cell_below hb h4, h5.below hb⟩
structure LitHere (w : World) (a : Addr) (l : LitL) : Prop where
  c0 : ∃ k : Int, w.cell? a = some (.int .i64 k) ∧ k.toNat = l.k
  c1 : AtomHere w ⟨a.block, a.off + 1, none⟩ l.a
  c3 : w.cell? ⟨a.block, a.off + 3, none⟩ = some (.string (bs l.o))
  c4 : TermHere w ⟨a.block, a.off + 4, none⟩ l.l
  c9 : TermHere w ⟨a.block, a.off + 9, none⟩ l.r
theorem LitHere.below {w w' : World} {a : Addr} {l : LitL} (h : LitHere w a l) (hb : Below w.heap.size w w') : LitHere w' a l := by
  obtain ⟨k, h0, hk⟩ := h.c0
  exact ⟨⟨k, cell_below hb h0, hk⟩, h.c1.below hb, cell_below hb h.c3, h.c4.below hb, h.c9.below hb⟩
def LitsRd (w : World) (A : Option Addr) (L : List LitL) : Prop := ∀ (j : Nat) (t : LitL), L[j]? = some t → ∃ a, A = some a ∧ LitHere w (a.add (j * 14)) t
theorem LitsRd.below {w w' : World} {A : Option Addr} {L : List LitL} (h : LitsRd w A L) (hb : Below w.heap.size w w') : LitsRd w' A L := fun j t hj => by
  obtain ⟨a, h1, h2⟩ := h j t hj
  exact ⟨a, h1, h2.below hb⟩
def RuleHere (w : World) (a : Addr) (x : RuleL) : Prop := AtomHere w a x.h ∧ ∃ A n c, n = x.b.length ∧ n ≤ c ∧ w.cell? ⟨a.block, a.off + 2, none⟩ = some (.slice A n c) ∧ LitsRd w A x.b
theorem RuleHere.below {w w' : World} {a : Addr} {x : RuleL} (h : RuleHere w a x) (hb : Below w.heap.size w w') : RuleHere w' a x := by
  obtain ⟨h0, A, n, c, h1, h2, h3, h5⟩ := h
  exact ⟨h0.below hb, A, n, c, h1, h2, cell_below hb h3, h5.below hb⟩
def RulesRd (w : World) (A : Option Addr) (L : List RuleL) : Prop := ∀ (j : Nat) (t : RuleL), L[j]? = some t → ∃ a, A = some a ∧ RuleHere w (a.add (j * 3)) t
theorem RulesRd.below {w w' : World} {A : Option Addr} {L : List RuleL} (h : RulesRd w A L) (hb : Below w.heap.size w w') : RulesRd w' A L := fun j t hj => by
  obtain ⟨a, h1, h2⟩ := h j t hj
  exact ⟨a, h1, h2.below hb⟩
structure DeclHere (w : World) (a : Addr) (t : DeclL) : Prop where
  c0 : w.cell? a = some (.string (bs t.p))
  c1 : w.cell? ⟨a.block, a.off + 1, none⟩ = some (.int .i64 t.n)
theorem DeclHere.below {w w' : World} {a : Addr} {t : DeclL} (h : DeclHere w a t) (hb : Below w.heap.size w w') : DeclHere w' a t := ⟨cell_below hb h.c0, cell_below hb h.c1⟩
def DeclsRd (w : World) (A : Option Addr) (L : List DeclL) : Prop := ∀ (j : Nat) (t : DeclL), L[j]? = some t → ∃ a, A = some a ∧ DeclHere w (a.add (j * 2)) t
theorem DeclsRd.below {w w' : World} {A : Option Addr} {L : List DeclL} (h : DeclsRd w A L) (hb : Below w.heap.size w w') : DeclsRd w' A L := fun j t hj => by
  obtain ⟨a, h1, h2⟩ := h j t hj
  exact ⟨a, h1, h2.below hb⟩

/-- Terms whose parts are not too great. -/
def TermOk (t : TermL) : Prop := t.t.length ≤ 1099511627776 ∧ -9223372036854775808 ≤ t.n ∧ t.n ≤ 9223372036854775807
def AtomOk (a : AtomL) : Prop := a.a.length < 1000000000 ∧ ∀ t ∈ a.a, TermOk t
def LitOk' (l : LitL) : Prop := AtomOk l.a ∧ TermOk l.l ∧ TermOk l.r
def RuleOk' (r : RuleL) : Prop := AtomOk r.h ∧ r.b.length < 1000000000 ∧ ∀ l ∈ r.b, LitOk' l
def termPV (t : TermL) : Value := .agg #[.bool t.v, .string (bs t.x), .bool t.s, .string (bs t.t), .int .i64 t.n]
/-- Strings as they lie in cells. -/
def strV (L : List (List UInt8)) : List Value := L.map fun x => .string (bs x)
theorem str_info : (Tryz.prog.info? 9).map (fun i => (i.zero, i.size, i.bytes)) = some (some (.string ⟨#[]⟩), 1, 16) := by kernel_rfl
theorem strs_own {W : World} {B e n c : Nat} {A : Option Addr} {L : List (List UInt8)} (h : W.ownsRow B e 1 (.slice A n c) n (strV L)) (hn : n = L.length) : StrsAt W A (L.map bs) := by
  intro j x hx
  rw [List.getElem?_map, Option.map_eq_some_iff] at hx
  obtain ⟨p, hp, rfl⟩ := hx
  have hlt := (List.getElem?_eq_some_iff.1 hp).1
  obtain ⟨g, rfl, hc⟩ := o_at h (by omega)
  refine ⟨_, rfl, ?_⟩
  rw [addr_add]
  exact hc j _ (by rw [strV, List.getElem?_map, hp]; rfl)
theorem own_cap {W : World} {B e z n c : Nat} {A : Option Addr} {xs : List Value} (h : W.ownsRow B e z (.slice A n c) n xs) : n ≤ c := by
  rcases h.2 with ⟨h1, _⟩ | ⟨g, cap, cur, hv, _, _, hnc, _⟩
  · injection h1 with _ h2 h3
    omega
  · injection hv with _ _ h3
    omega
theorem txs_bs (L : List (List UInt8)) : txs (L.map bs) = L := by
  unfold txs
  rw [List.map_map]
  exact List.map_id'' (fun x => rfl) L
theorem bs_data (l : List UInt8) : (bs l).data.toList = l := rfl
set_option maxRecDepth 100000 in
set_option maxHeartbeats 4000000 in
theorem prTerm_calls (t : TermL) (w : World) (hok : TermOk t) (hw : TabW w) :
    Calls Tryz.prog 24 #[termPV t] w fun e w' => e = .returned (.string (bs (termT t))) ∧ Below w.heap.size w w' := by
  obtain ⟨v, x, s, y, n⟩ := t
  show Calls Tryz.prog 24 #[.agg #[.bool v, .string (bs x), .bool s, .string (bs y), .int .i64 n]] w _
  have hbl := (Below.refl w.heap.size w).alloc (Nat.le_refl _) (.cells #[.bool v, .string (bs x), .bool s, .string (bs y), .int .i64 n] 45)
  have HB := Lib.hid hbl
  have HW := Lib.hid (hw.below hbl)
  have HOK := Lib.hid (show (bs y).size ≤ 1099511627776 ∧ -9223372036854775808 ≤ n ∧ n ≤ 9223372036854775807 by rw [bs_size]; exact hok)
  clear hbl hw hok
  cases v with
  | true =>
    go_enter Tryz.func24, Tryz.ntmps24
    go_wp2_with fail
    go_ret
    exact ⟨rfl, HB.out⟩
  | false =>
    go_enter Tryz.func24, Tryz.ntmps24
    go_wp2_with (go_at_call 54; ((with_reducible refine (text_calls s (bs y) n _ HOK.out.1 HOK.out.2.1 HOK.out.2.2 HW.out).mono ?_); rintro e w2 ⟨rfl, hb⟩; have HB2 := Lib.hid (HB.out.trans (hb.mono HB.out.size)); clear hb))
    go_ret
    exact ⟨rfl, HB2.out⟩
end Go.Proofs.YtminbdcabacfbaaGreatDoor.V

namespace Go.Proofs.YtminbdcabacfbaaGreatDoor.V
set_option linter.unusedVariables false
set_option linter.unusedSimpArgs false
open Go.RowKit

def tokA (t : Tok) (a : Nat) : Value := .agg #[.int .i64 (t.k : Int), .string (bs t.s), .int .i64 t.n, .bool t.q, .int .i64 (a : Int)]

/-- The parser's block, its tokens beside it. -/
structure PS (P : Nat) (L : List TP) (N nx : Nat) (pl bad : Int) (A : Option Addr) (c : Nat) (W : World) : Prop where
  b : W.heap[P]? = some (.cells #[.slice A L.length c, .int .i64 (nx : Int), .int .i64 (N : Int), .int .i64 pl, .int .i64 bad] 68 (0, 0))
  o : W.ownsRow 0 71 5 (.slice A L.length c) L.length (tokCells L)
  n : L.length ≤ 65536
  s : N ≤ 65536
  x : nx ≤ 1000000
section
variable {P : Nat} {L : List TP} {N nx : Nat} {pl bad : Int} {A : Option Addr} {c : Nat} {W W' : World}
theorem PS.c0 (h : PS P L N nx pl bad A c W) : W.cell? ⟨P, 0, none⟩ = some (.slice A L.length c) := cell_of_row W P 0 _ _ _ h.b
theorem PS.c1 (h : PS P L N nx pl bad A c W) : W.cell? ⟨P, 1, none⟩ = some (.int .i64 (nx : Int)) := cell_of_row W P 1 _ _ _ h.b
theorem PS.c2 (h : PS P L N nx pl bad A c W) : W.cell? ⟨P, 2, none⟩ = some (.int .i64 (N : Int)) := cell_of_row W P 2 _ _ _ h.b
theorem PS.c3 (h : PS P L N nx pl bad A c W) : W.cell? ⟨P, 3, none⟩ = some (.int .i64 pl) := cell_of_row W P 3 _ _ _ h.b
theorem PS.c4 (h : PS P L N nx pl bad A c W) : W.cell? ⟨P, 4, none⟩ = some (.int .i64 bad) := cell_of_row W P 4 _ _ _ h.b
theorem PS.fr (h : PS P L N nx pl bad A c W) (i : Nat) : W.frozen? ⟨P, i, none⟩ = false := frozen_of_row W P i _ _ h.b
theorem PS.lt (h : PS P L N nx pl bad A c W) : P < W.heap.size := (Array.getElem?_eq_some_iff.1 h.b).1
theorem PS.ne (h : PS P L N nx pl bad A c W) : some P ≠ Value.ownBlock (.slice A L.length c) := by
  intro he
  rcases h.o.2 with ⟨hv, _⟩ | ⟨g, cap, cur, hv, _, hk, _⟩
  · rw [hv] at he
    cases he
  · rw [hv] at he
    have : P = g := Option.some.inj he
    subst this
    have hb := h.b
    rw [hk] at hb
    simp at hb
theorem PS.grown {row : Option Nat} (h : PS P L N nx pl bad A c W) (hg : W.grownBy W' row) (h1 : some P ≠ row) (h2 : Value.ownBlock (.slice A L.length c) ≠ row) : PS P L N nx pl bad A c W' :=
  ⟨(hg.block P h.lt h1).trans h.b, h.o.kept hg (.inr h2), h.n, h.s, h.x⟩
theorem PS.below (h : PS P L N nx pl bad A c W) (hb : Below W.heap.size W W') : PS P L N nx pl bad A c W' :=
  ⟨(hb.block P h.lt).trans h.b, h.o.kept (grown_below hb none) (by cases A <;> simp [Value.ownBlock]), h.n, h.s, h.x⟩
theorem PS.setNext (h : PS P L N nx pl bad A c W) (m : Nat) (hm : m ≤ 1000000) : PS P L N m pl bad A c (W.setCell ⟨P, 1, none⟩ (.int .i64 (m : Int))) :=
  ⟨set_block h.b _, h.o.kept (grown_set (World.grownBy.refl W (some P)) 1 _) (.inr (Ne.symm h.ne)), h.n, h.s, hm⟩
theorem PS.setBad (h : PS P L N nx pl bad A c W) (a e : Int) : PS P L N nx a e A c ((W.setCell ⟨P, 3, none⟩ (.int .i64 a)).setCell ⟨P, 4, none⟩ (.int .i64 e)) :=
  ⟨set_block (set_block h.b _) _, h.o.kept (grown_set (grown_set (World.grownBy.refl W (some P)) 3 _) 4 _) (.inr (Ne.symm h.ne)), h.n, h.s, h.x⟩
end
theorem PS.old {P T : Nat} {L : List TP} {N nx : Nat} {pl bad : Int} {A : Option Addr} {c : Nat} {W : World} (h : PS P L N nx pl bad A c W) (hA : some T = Value.ownBlock (.slice A L.length c)) : T < W.heap.size := (h.o.lt T hA.symm).2
/-- Another block's turn, of another type. -/
theorem PS.tokSet {P T : Nat} {L : List TP} {N nx : Nat} {pl bad : Int} {A : Option Addr} {c : Nat} {W : World} (h : PS P L N nx pl bad A c W) (hne : P ≠ T) (hA : some T ≠ Value.ownBlock (.slice A L.length c)) (u0 u1 u2 u3 u4 : Value) : PS P L N nx pl bad A c (V.tokSet T u0 u1 u2 u3 u4 W) :=
  h.grown (row := some T) (grown_set (grown_set (grown_set (grown_set (grown_set (World.grownBy.refl W (some T)) _ _) _ _) _ _) _ _) _ _) (by simpa using hne) (Ne.symm hA)
theorem tokCells_at (L : List TP) : ∀ (m j : Nat) (p : TP), L[m]? = some p → j < 5 → (tokCells L)[m * 5 + j]? = (tokC p)[j]? := by
  induction L with
  | nil => intro m j p h; simp at h
  | cons x l ih =>
    intro m j p h hj
    unfold tokCells
    rw [List.flatMap_cons]
    match m with
    | 0 =>
      simp at h
      subst h
      rw [Nat.zero_mul, Nat.zero_add, List.getElem?_append_left (by simp [tokC]; omega)]
    | m + 1 =>
      rw [List.getElem?_append_right (by simp [tokC]; omega)]
      have := ih m j p (by simpa using h) hj
      unfold tokCells at this
      rw [← this]
      congr 1
      simp [tokC]
      omega
theorem pk_in {N : Nat} {L : List TP} {nx i : Nat} {t : Tok} {a : Nat} (hp : pk N (L.drop nx) i = (t, a)) (h : nx + i < L.length) : L[nx + i]? = some (t, a) := by
  unfold pk at hp
  rw [List.getElem?_drop, List.getElem?_eq_getElem h] at hp
  rw [List.getElem?_eq_getElem h]
  simpa using hp
theorem pk_out {N : Nat} {L : List TP} {nx i : Nat} (h : L.length ≤ nx + i) : pk N (L.drop nx) i = eofT N := by
  unfold pk
  rw [List.getElem?_drop, List.getElem?_eq_none h]
  rfl
theorem PS.row {P : Nat} {L : List TP} {N nx : Nat} {pl bad : Int} {A : Option Addr} {c : Nat} {W : World} (h : PS P L N nx pl bad A c W) {m : Nat} {t : Tok} {a : Nat} (hm : L[m]? = some (t, a)) :
    ∃ g, A = some ⟨g, 0, none⟩ ∧ W.cell? ⟨g, m * 5, none⟩ = some (.int .i64 (t.k : Int)) ∧ W.cell? ⟨g, m * 5 + 1, none⟩ = some (.string (bs t.s)) ∧ W.cell? ⟨g, m * 5 + 2, none⟩ = some (.int .i64 t.n) ∧ W.cell? ⟨g, m * 5 + 3, none⟩ = some (.bool t.q) ∧ W.cell? ⟨g, m * 5 + 4, none⟩ = some (.int .i64 (a : Int)) := by
  have ho := h.o
  have hlt : m < L.length := (List.getElem?_eq_some_iff.1 hm).1
  rcases ho.2 with ⟨hv, h0⟩ | ⟨g, cap, cur, hv, _, hk, _, _, _, hcur⟩
  · omega
  · have hA : A = some ⟨g, 0, none⟩ := by injection hv
    refine ⟨g, hA, ?_⟩
    have key : ∀ j u, j < 5 → (tokC (t, a))[j]? = some u → W.cell? ⟨g, m * 5 + j, none⟩ = some u := by
      intro j u hj hu
      rw [cell_of_row W g (m * 5 + j) cur _ _ hk]
      have h2 : cur[m * 5 + j]? = (tokCells L)[m * 5 + j]? := by
        rw [← hcur, List.getElem?_take_of_lt (by omega)]
        simp
      rw [h2, tokCells_at L m j _ hm hj]
      exact hu
    exact ⟨key 0 _ (by omega) rfl, key 1 _ (by omega) rfl, key 2 _ (by omega) rfl, key 3 _ (by omega) rfl, key 4 _ (by omega) rfl⟩

set_option maxRecDepth 100000 in
theorem peek_calls {P : Nat} {L : List TP} {N nx : Nat} {pl bad : Int} {A : Option Addr} {c : Nat} (i : Nat) (t : Tok) (a : Nat) (w : World) (h : PS P L N nx pl bad A c w) (hi : i ≤ 1) (hp : pk N (L.drop nx) i = (t, a)) :
    Calls Tryz.prog 36 #[.pointer (some ⟨P, 0, none⟩), .int .i64 (i : Int)] w fun e w' => e = .returned (tokA t a) ∧ Below w.heap.size w w' := by
  have hg0 := World.grownBy_alloc w (.cells #[.int .i64 0, .string ⟨#[]⟩, .int .i64 0, .bool false, .int .i64 0] 71) none
  have hx := h.x
  have hn := h.n
  have h2 := h.below (below_of_grown hg0)
  have c0 := h2.c0
  have c1 := h2.c1
  have c2 := h2.c2
  have HB := Lib.hid (below_of_grown hg0)
  by_cases hlt : nx + i < L.length
  · have hd : decide ((L.length : Int) ≤ (nx : Int) + (i : Int)) = false := decide_eq_false (by omega)
    obtain ⟨g, rfl, r0, r1, r2, r3, r4⟩ := h2.row (pk_in hp hlt)
    clear h h2 hp hg0
    go_enter Tryz.func36, Tryz.ntmps36
    go_wp2_with fail
    go_region
    go_wp2_with fail
    go_region
    go_wp2_with fail
    refine bodyPost_ret (v := tokA t a) (by simp [results, Tryz.results36, go_sem, tokA]) rfl ⟨rfl, ?_⟩
    exact ((Below.refl w.heap.size w).alloc (Nat.le_refl _) _).drew.drew
  · have hd : decide ((L.length : Int) ≤ (nx : Int) + (i : Int)) = true := decide_eq_true (by omega)
    have HP := Lib.hid (show (t, a) = eofT N by rw [← hp, pk_out (by omega)])
    clear h h2 hp hg0
    go_enter Tryz.func36, Tryz.ntmps36
    go_wp2_with fail
    go_region
    go_wp2_with fail
    refine bodyPost_ret (v := tokA (eofT N).1 (eofT N).2) (by simp [results, Tryz.results36, go_sem, tokA, eofT, bs]) rfl ⟨?_, ?_⟩
    · rw [← HP.out]
    exact ((Below.refl w.heap.size w).alloc (Nat.le_refl _) _).drew
theorem peek0_calls {P : Nat} {L : List TP} {N nx : Nat} {pl bad : Int} {A : Option Addr} {c : Nat} (t : Tok) (a : Nat) (w : World) (h : PS P L N nx pl bad A c w) (hp : pk N (L.drop nx) 0 = (t, a)) :
    Calls Tryz.prog 36 #[.pointer (some ⟨P, 0, none⟩), .int .i64 0] w fun e w' => e = .returned (.agg #[.int .i64 (t.k : Int), .string (bs t.s), .int .i64 t.n, .bool t.q, .int .i64 (a : Int)]) ∧ Below w.heap.size w w' := peek_calls 0 t a w h (by omega) hp
theorem peek1_calls {P : Nat} {L : List TP} {N nx : Nat} {pl bad : Int} {A : Option Addr} {c : Nat} (t : Tok) (a : Nat) (w : World) (h : PS P L N nx pl bad A c w) (hp : pk N (L.drop nx) 1 = (t, a)) :
    Calls Tryz.prog 36 #[.pointer (some ⟨P, 0, none⟩), .int .i64 1] w fun e w' => e = .returned (.agg #[.int .i64 (t.k : Int), .string (bs t.s), .int .i64 t.n, .bool t.q, .int .i64 (a : Int)]) ∧ Below w.heap.size w w' := peek_calls 1 t a w h (by omega) hp

set_option maxRecDepth 100000 in
theorem take_calls {P : Nat} {L : List TP} {N nx : Nat} {pl bad : Int} {A : Option Addr} {c : Nat} (t : Tok) (a : Nat) (w : World) (h : PS P L N nx pl bad A c w) (hx : nx + 1 ≤ 1000000) (hp : pk N (L.drop nx) 0 = (t, a)) :
    Calls Tryz.prog 61 #[.pointer (some ⟨P, 0, none⟩)] w fun e w' => e = .returned (tokA t a) ∧ PS P L N (nx + 1) pl bad A c w' ∧ w.grownBy w' (some P) := by
  have h1 := h.below ((Below.refl w.heap.size w).alloc (Nat.le_refl _) (.cells #[.int .i64 0, .string ⟨#[]⟩, .int .i64 0, .bool false, .int .i64 0] 71))
  have hK := IsTok.new (v0 := .int .i64 0) (v1 := .string ⟨#[]⟩) (v2 := .int .i64 0) (v3 := .bool false) (v4 := .int .i64 0) w
  have H1 := Lib.hid h1
  have H0 := Lib.hid h
  have HK := Lib.hid hK
  have HLT := Lib.hid h.lt
  clear h h1 hK
  go_enter Tryz.func61, Tryz.ntmps61
  go_wp2_with (go_at_call 36; ((with_reducible refine (peek0_calls t a _ H1.out hp).mono ?_); rintro e w1 ⟨rfl, hb⟩; have h1 := H1.out.below hb; have h2 := h1.below ((Below.refl w1.heap.size w1).alloc (Nat.le_refl _) (.cells #[.int .i64 (t.k : Int), .string (bs t.s), .int .i64 t.n, .bool t.q, .int .i64 (a : Int)] 71)); have c1 := h2.c1; have f1 := h2.fr 1; have HB := Lib.hid hb; have hk := HK.out.grown (grown_below hb none) (by simp); have HK1 := Lib.hid hk; have HH1 := Lib.hid h1; have hS := grown_set (World.grownBy.refl (w1.alloc (.cells #[.int .i64 (t.k : Int), .string (bs t.s), .int .i64 t.n, .bool t.q, .int .i64 (a : Int)] 71)) (some P)) 1 (.int .i64 ((nx : Int) + 1)); have hn2 := (IsTok.new (v0 := .int .i64 (t.k : Int)) (v1 := .string (bs t.s)) (v2 := .int .i64 t.n) (v3 := .bool t.q) (v4 := .int .i64 (a : Int)) w1).grown hS (by have := h1.lt; simp; omega); have n0 := hn2.c0; have n1 := hn2.c1; have n2 := hn2.c2; have n3 := hn2.c3; have n4 := hn2.c4; have hk2 := (hk.grown (World.grownBy_alloc _ (.cells #[.int .i64 (t.k : Int), .string (bs t.s), .int .i64 t.n, .bool t.q, .int .i64 (a : Int)] 71) none) (by simp)).grown hS (by have := HLT.out; simp; omega); have HK2 := Lib.hid hk2; have k0 := hk2.c0; have k1 := hk2.c1; have k2 := hk2.c2; have k3 := hk2.c3; have k4 := hk2.c4; have l0 := hk2.fr 0; have l1 := hk2.fr 1; have l2 := hk2.fr 2; have l3 := hk2.fr 3; have l4 := hk2.fr 4; clear hb h1 hk h2 hk2 hn2 hS))
  have hset := HK2.out.set (.int .i64 (t.k : Int)) (.string (bs t.s)) (.int .i64 t.n) (.bool t.q) (.int .i64 (a : Int))
  have r0 := hset.c0; have r1 := hset.c1; have r2 := hset.c2; have r3 := hset.c3; have r4 := hset.c4
  have HP1 := HH1.out.below ((Below.refl w1.heap.size w1).alloc (Nat.le_refl _) (.cells #[.int .i64 (t.k : Int), .string (bs t.s), .int .i64 t.n, .bool t.q, .int .i64 (a : Int)] 71))
  refine bodyPost_ret (v := tokA t a) (by simp [results, Tryz.results61, go_sem, r0, r1, r2, r3, r4, tokA]) rfl ⟨rfl, (HP1.setNext (nx + 1) hx).tokSet (by have := HLT.out; omega) ?_ _ _ _ _ _, ?_⟩
  · exact fun he => Nat.lt_irrefl _ (H0.out.old he)
  · exact grown_tokSet (grown_set (grown_trans (World.grownBy_alloc _ _ _) (grown_trans (grown_below HB.out _) (World.grownBy_alloc _ _ _))) _ _) (Nat.le_refl _) _ _ _ _ _

set_option maxRecDepth 100000 in
theorem is_calls {P : Nat} {L : List TP} {N nx : Nat} {pl bad : Int} {A : Option Addr} {c : Nat} (mb : ByteArray) (v : Bool) (w : World) (h : PS P L N nx pl bad A c w) (hv : isM N (L.drop nx) 0 mb.data.toList = v) :
    Calls Tryz.prog 60 #[.pointer (some ⟨P, 0, none⟩), .string mb] w fun e w' => e = .returned (.bool v) ∧ Below w.heap.size w w' := by
  obtain ⟨⟨t, a⟩, hp⟩ : ∃ p, pk N (L.drop nx) 0 = p := ⟨_, rfl⟩
  unfold isM at hv
  rw [hp] at hv
  have H := Lib.hid h
  have HV := Lib.hid hv
  clear h hv
  cases hk : ((t.k : Int) == 4) with
  | false =>
    have HK := Lib.hid (show (t.k == 4) = false by cases h4 : (t.k == 4) with
      | false => rfl
      | true => simp at h4 hk; omega)
    go_enter Tryz.func60, Tryz.ntmps60
    go_wp2_with (go_at_call 36; ((with_reducible refine (peek0_calls t a _ H.out hp).mono ?_); rintro e w1 ⟨rfl, hb⟩; have HB := Lib.hid hb; clear hb))
    go_ret
    exact ⟨by rw [← HV.out, HK.out]; rfl, HB.out.alloc HB.out.size _⟩
  | true =>
    have HK := Lib.hid (show (t.k == 4) = true by simp at hk ⊢; omega)
    cases hs : ((bs t.s).toList == mb.toList) with
    | false =>
      have HS := Lib.hid (show (t.s == mb.data.toList) = false by rw [← ByteArray.toList_eq, ← bs_list t.s]; exact hs)
      go_enter Tryz.func60, Tryz.ntmps60
      go_wp2_with (go_at_call 36; ((with_reducible refine (peek0_calls t a _ H.out hp).mono ?_); rintro e w1 ⟨rfl, hb⟩; have HB := Lib.hid hb; clear hb))
      go_ret
      exact ⟨by rw [← HV.out, HK.out, HS.out]; rfl, HB.out.alloc HB.out.size _⟩
    | true =>
      have HS := Lib.hid (show (t.s == mb.data.toList) = true by rw [← ByteArray.toList_eq, ← bs_list t.s]; exact hs)
      go_enter Tryz.func60, Tryz.ntmps60
      go_wp2_with (go_at_call 36; ((with_reducible refine (peek0_calls t a _ H.out hp).mono ?_); rintro e w1 ⟨rfl, hb⟩; have HB := Lib.hid hb; clear hb))
      go_ret
      exact ⟨by rw [← HV.out, HK.out, HS.out]; rfl, HB.out.alloc HB.out.size _⟩
theorem pok_calls {P : Nat} {L : List TP} {N nx : Nat} {pl bad : Int} {A : Option Addr} {c : Nat} (v : Bool) (w : World) (h : PS P L N nx pl bad A c w) (hv : (bad == 0) = v) :
    Calls Tryz.prog 33 #[.pointer (some ⟨P, 0, none⟩)] w fun e w' => e = .returned (.bool v) ∧ w = w' := by
  have c4 := h.c4
  clear h
  cases v
  all_goals
    go_enter Tryz.func33, Tryz.ntmps33
    go_wp2
    go_ret
    exact ⟨rfl, rfl⟩
theorem fail_bad_calls {P : Nat} {L : List TP} {N nx : Nat} {pl bad : Int} {A : Option Addr} {c : Nat} (K : Int) (sb : ByteArray) (n : Int) (q : Bool) (a : Int) (e0 : Int) (w : World) (h : PS P L N nx pl bad A c w) (hv : (bad == 0) = false) :
    Calls Tryz.prog 35 #[.pointer (some ⟨P, 0, none⟩), .agg #[.int .i64 K, .string sb, .int .i64 n, .bool q, .int .i64 a], .int .i64 e0] w fun e w' => e = .returned (.tuple #[]) ∧ Below w.heap.size w w' := by
  have h2 := h.below ((Below.refl w.heap.size w).alloc (Nat.le_refl _) (.cells #[.int .i64 K, .string sb, .int .i64 n, .bool q, .int .i64 a] 71))
  have c4 := h2.c4
  clear h h2
  go_enter Tryz.func35, Tryz.ntmps35
  go_wp2_with fail
  go_end0
  exact ⟨rfl, (Below.refl w.heap.size w).alloc (Nat.le_refl _) _⟩
theorem fail_ok_calls {P : Nat} {L : List TP} {N nx : Nat} {pl : Int} {A : Option Addr} {c : Nat} (K : Int) (sb : ByteArray) (n : Int) (q : Bool) (a : Int) (e0 : Int) (w : World) (h : PS P L N nx pl 0 A c w) :
    Calls Tryz.prog 35 #[.pointer (some ⟨P, 0, none⟩), .agg #[.int .i64 K, .string sb, .int .i64 n, .bool q, .int .i64 a], .int .i64 e0] w fun e w' => e = .returned (.tuple #[]) ∧ PS P L N nx a e0 A c w' ∧ w.grownBy w' (some P) := by
  have h2 := h.below ((Below.refl w.heap.size w).alloc (Nat.le_refl _) (.cells #[.int .i64 K, .string sb, .int .i64 n, .bool q, .int .i64 a] 71))
  have c4 := h2.c4
  have c3 := h2.c3
  have f3 := h2.fr 3
  have f4 := h2.fr 4
  have H2 := Lib.hid h2
  clear h h2
  go_enter Tryz.func35, Tryz.ntmps35
  go_wp2_with fail
  go_end0
  exact ⟨rfl, H2.out.setBad _ _, grown_set (grown_set (World.grownBy_alloc _ _ _) _ _) _ _⟩
end Go.Proofs.YtminbdcabacfbaaGreatDoor.V

namespace Go.Proofs.YtminbdcabacfbaaGreatDoor.V
set_option linter.unusedVariables false
set_option linter.unusedSimpArgs false
open Go.RowKit

theorem plain_first_no {s : ByteArray} (hp : 0 < s.size) (h : smallI ((s[0]'hp).toNat : Int) = false) : plainL s.data.toList = false := by
  have e : s.data.toList[0]'(by simpa using hp) = s[0] := by rw [ByteArray.getElem_eq_getElem_data]; simp
  cases hl : s.data.toList with
  | nil => rfl
  | cons c r =>
    have : c = s[0] := by rw [← e]; simp [hl]
    rw [← this] at h
    simp only [plainL, h, Bool.and_false, Bool.false_and]
theorem head_eq {s : ByteArray} (hp : 0 < s.size) : s.data.toList.headD 0 = s[0] := by
  have e : s.data.toList[0]'(by simpa using hp) = s[0] := by rw [ByteArray.getElem_eq_getElem_data]; simp
  cases hl : s.data.toList with
  | nil =>
    have h2 : s.data.toList.length = s.size := by simp
    rw [hl, List.length_nil] at h2
    omega
  | cons c r =>
    rw [← e]
    simp [hl]

set_option maxRecDepth 100000 in
set_option maxHeartbeats 8000000 in
theorem refPlain_calls (s : ByteArray) (w : World) (hs : s.size ≤ 1099511627776) : Calls Tryz.prog 49 #[.string s] w fun e w' => e = .returned (.bool (plainL s.data.toList)) ∧ Below w.heap.size w w' := by
  have hmx : s.size ≤ 9223372036854775807 := by omega
  by_cases h0 : s.size = 0
  · have h0d : ((s.size : Int) == 0) = true := by rw [h0]; rfl
    have HP := Lib.hid (show plainL s.data.toList = false by
      have : s.data.toList = [] := by rw [← List.length_eq_zero_iff]; simpa using h0
      rw [this]; rfl)
    clear h0
    go_enter Tryz.func49, Tryz.ntmps49
    go_wp2_with fail
    go_ret
    exact ⟨by rw [HP.out]; rfl, Below.refl _ _⟩
  · have h0d : ((s.size : Int) == 0) = false := by rw [beq_eq_false_iff_ne]; omega
    by_cases h1 : s.toList = [110, 111, 116]
    · have h1d : (s.toList == [110, 111, 116]) = true := by rw [h1]; rfl
      have HP := Lib.hid (show plainL s.data.toList = false by
        rw [← ByteArray.toList_eq, h1]; rfl)
      clear h0 h1
      go_enter Tryz.func49, Tryz.ntmps49
      go_wp2_with fail
      go_ret
      exact ⟨by rw [HP.out]; rfl, Below.refl _ _⟩
    · have h1d : (s.toList == [110, 111, 116]) = false := by simpa using h1
      have HN := Lib.hid (show (s.data.toList == [110, 111, 116]) = false by rw [← ByteArray.toList_eq]; exact h1d)
      have hp : 0 < s.size := by omega
      clear h0 h1
      go_enter Tryz.func49, Tryz.ntmps49
      go_wp2_with fail
      clear h0d h1d
      go_loopw [3] (fun i wr => ∃ k : Nat, k ≤ s.size ∧ i = .int .i64 k ∧ (0 < k → smallI ((s[0]'hp).toNat : Int) = true) ∧ Upto s k ∧ wr = w) (fun i _ => s.size - (intOf i).toNat)
      case atStart => exact ⟨0, by omega, rfl, fun h => absurd h (by omega), rfl, rfl⟩
      case round =>
        obtain ⟨k, hk, rfl, hf, hu, rfl⟩ := hrel
        have HF := Lib.hid hf
        have HU := Lib.hid hu
        clear hf hu
        by_cases hlt : k < s.size
        · have hd : decide ((k : Int) < (s.size : Int)) = true := decide_eq_true (by omega)
          obtain ⟨c, hc⟩ : ∃ c : Int, ((s[k]'hlt).toNat : Int) = c := ⟨_, rfl⟩
          have HC := Lib.hid hc
          have hc0 : 0 ≤ c := by omega
          have hcb : 48 > c ∨ (48 ≤ c ∧ c ≤ 57) ∨ (58 ≤ c ∧ c ≤ 64) ∨ (65 ≤ c ∧ c ≤ 90) ∨ (91 ≤ c ∧ c ≤ 94) ∨ c = 95 ∨ c = 96 ∨ (97 ≤ c ∧ c ≤ 122) ∨ 122 < c := by omega
          by_cases hk0 : k = 0
          · have hk0d : (((k : Nat) : Int) == 0) = true := by rw [hk0]; rfl
            rcases hcb with hcb | hcb | hcb | hcb | hcb | hcb | hcb | hcb | hcb
            · have g97 : decide ((97 : Int) ≤ c) = false := decide_eq_false (by omega)
              have g122 : decide (c ≤ 122) = true := decide_eq_true (by omega)
              have g65 : decide ((65 : Int) ≤ c) = false := decide_eq_false (by omega)
              have g90 : decide (c ≤ 90) = true := decide_eq_true (by omega)
              have g48 : decide ((48 : Int) ≤ c) = false := decide_eq_false (by omega)
              have g57 : decide (c ≤ 57) = true := decide_eq_true (by omega)
              have g95 : (c == 95) = false := by rw [beq_eq_false_iff_ne]; omega
              have HR := Lib.hid (show plainL s.data.toList = false from plain_first_no hp (by subst hk0; rw [HC.out]; simp only [smallI, Bool.and_eq_false_iff, decide_eq_false_iff_not]; omega))
              clear hcb hk0
              rw [← hc] at g97 g122 g65 g90 g48 g57 g95
              clear hc hc0
              go_wp2_with fail
              go_ret
              exact ⟨by rw [HR.out]; rfl, Below.refl _ _⟩
            · have g97 : decide ((97 : Int) ≤ c) = false := decide_eq_false (by omega)
              have g122 : decide (c ≤ 122) = true := decide_eq_true (by omega)
              have g65 : decide ((65 : Int) ≤ c) = false := decide_eq_false (by omega)
              have g90 : decide (c ≤ 90) = true := decide_eq_true (by omega)
              have g48 : decide ((48 : Int) ≤ c) = true := decide_eq_true (by omega)
              have g57 : decide (c ≤ 57) = true := decide_eq_true (by omega)
              have g95 : (c == 95) = false := by rw [beq_eq_false_iff_ne]; omega
              have HR := Lib.hid (show plainL s.data.toList = false from plain_first_no hp (by subst hk0; rw [HC.out]; simp only [smallI, Bool.and_eq_false_iff, decide_eq_false_iff_not]; omega))
              clear hcb hk0
              rw [← hc] at g97 g122 g65 g90 g48 g57 g95
              clear hc hc0
              go_wp2_with fail
              go_ret
              exact ⟨by rw [HR.out]; rfl, Below.refl _ _⟩
            · have g97 : decide ((97 : Int) ≤ c) = false := decide_eq_false (by omega)
              have g122 : decide (c ≤ 122) = true := decide_eq_true (by omega)
              have g65 : decide ((65 : Int) ≤ c) = false := decide_eq_false (by omega)
              have g90 : decide (c ≤ 90) = true := decide_eq_true (by omega)
              have g48 : decide ((48 : Int) ≤ c) = true := decide_eq_true (by omega)
              have g57 : decide (c ≤ 57) = false := decide_eq_false (by omega)
              have g95 : (c == 95) = false := by rw [beq_eq_false_iff_ne]; omega
              have HR := Lib.hid (show plainL s.data.toList = false from plain_first_no hp (by subst hk0; rw [HC.out]; simp only [smallI, Bool.and_eq_false_iff, decide_eq_false_iff_not]; omega))
              clear hcb hk0
              rw [← hc] at g97 g122 g65 g90 g48 g57 g95
              clear hc hc0
              go_wp2_with fail
              go_ret
              exact ⟨by rw [HR.out]; rfl, Below.refl _ _⟩
            · have g97 : decide ((97 : Int) ≤ c) = false := decide_eq_false (by omega)
              have g122 : decide (c ≤ 122) = true := decide_eq_true (by omega)
              have g65 : decide ((65 : Int) ≤ c) = true := decide_eq_true (by omega)
              have g90 : decide (c ≤ 90) = true := decide_eq_true (by omega)
              have g48 : decide ((48 : Int) ≤ c) = true := decide_eq_true (by omega)
              have g57 : decide (c ≤ 57) = false := decide_eq_false (by omega)
              have g95 : (c == 95) = false := by rw [beq_eq_false_iff_ne]; omega
              have HR := Lib.hid (show plainL s.data.toList = false from plain_first_no hp (by subst hk0; rw [HC.out]; simp only [smallI, Bool.and_eq_false_iff, decide_eq_false_iff_not]; omega))
              clear hcb hk0
              rw [← hc] at g97 g122 g65 g90 g48 g57 g95
              clear hc hc0
              go_wp2_with fail
              go_ret
              exact ⟨by rw [HR.out]; rfl, Below.refl _ _⟩
            · have g97 : decide ((97 : Int) ≤ c) = false := decide_eq_false (by omega)
              have g122 : decide (c ≤ 122) = true := decide_eq_true (by omega)
              have g65 : decide ((65 : Int) ≤ c) = true := decide_eq_true (by omega)
              have g90 : decide (c ≤ 90) = false := decide_eq_false (by omega)
              have g48 : decide ((48 : Int) ≤ c) = true := decide_eq_true (by omega)
              have g57 : decide (c ≤ 57) = false := decide_eq_false (by omega)
              have g95 : (c == 95) = false := by rw [beq_eq_false_iff_ne]; omega
              have HR := Lib.hid (show plainL s.data.toList = false from plain_first_no hp (by subst hk0; rw [HC.out]; simp only [smallI, Bool.and_eq_false_iff, decide_eq_false_iff_not]; omega))
              clear hcb hk0
              rw [← hc] at g97 g122 g65 g90 g48 g57 g95
              clear hc hc0
              go_wp2_with fail
              go_ret
              exact ⟨by rw [HR.out]; rfl, Below.refl _ _⟩
            · have g97 : decide ((97 : Int) ≤ c) = false := decide_eq_false (by omega)
              have g122 : decide (c ≤ 122) = true := decide_eq_true (by omega)
              have g65 : decide ((65 : Int) ≤ c) = true := decide_eq_true (by omega)
              have g90 : decide (c ≤ 90) = false := decide_eq_false (by omega)
              have g48 : decide ((48 : Int) ≤ c) = true := decide_eq_true (by omega)
              have g57 : decide (c ≤ 57) = false := decide_eq_false (by omega)
              have g95 : (c == 95) = true := by simp only [beq_iff_eq]; omega
              have HR := Lib.hid (show plainL s.data.toList = false from plain_first_no hp (by subst hk0; rw [HC.out]; simp only [smallI, Bool.and_eq_false_iff, decide_eq_false_iff_not]; omega))
              clear hcb hk0
              rw [← hc] at g97 g122 g65 g90 g48 g57 g95
              clear hc hc0
              go_wp2_with fail
              go_ret
              exact ⟨by rw [HR.out]; rfl, Below.refl _ _⟩
            · have g97 : decide ((97 : Int) ≤ c) = false := decide_eq_false (by omega)
              have g122 : decide (c ≤ 122) = true := decide_eq_true (by omega)
              have g65 : decide ((65 : Int) ≤ c) = true := decide_eq_true (by omega)
              have g90 : decide (c ≤ 90) = false := decide_eq_false (by omega)
              have g48 : decide ((48 : Int) ≤ c) = true := decide_eq_true (by omega)
              have g57 : decide (c ≤ 57) = false := decide_eq_false (by omega)
              have g95 : (c == 95) = false := by rw [beq_eq_false_iff_ne]; omega
              have HR := Lib.hid (show plainL s.data.toList = false from plain_first_no hp (by subst hk0; rw [HC.out]; simp only [smallI, Bool.and_eq_false_iff, decide_eq_false_iff_not]; omega))
              clear hcb hk0
              rw [← hc] at g97 g122 g65 g90 g48 g57 g95
              clear hc hc0
              go_wp2_with fail
              go_ret
              exact ⟨by rw [HR.out]; rfl, Below.refl _ _⟩
            · have g97 : decide ((97 : Int) ≤ c) = true := decide_eq_true (by omega)
              have g122 : decide (c ≤ 122) = true := decide_eq_true (by omega)
              have g65 : decide ((65 : Int) ≤ c) = true := decide_eq_true (by omega)
              have g90 : decide (c ≤ 90) = false := decide_eq_false (by omega)
              have g48 : decide ((48 : Int) ≤ c) = true := decide_eq_true (by omega)
              have g57 : decide (c ≤ 57) = false := decide_eq_false (by omega)
              have g95 : (c == 95) = false := by rw [beq_eq_false_iff_ne]; omega
              have HW := Lib.hid (show Upto s (k + 1) from upto_succ hlt HU.out (by rw [HC.out]; simp only [wordI, smallI, Bool.or_eq_true, Bool.and_eq_true, decide_eq_true_eq]; omega))
              have HG := Lib.hid (show 0 < k + 1 → smallI ((s[0]'hp).toNat : Int) = true from fun _ => by subst hk0; rw [HC.out]; simp only [smallI, Bool.and_eq_true, decide_eq_true_eq]; omega)
              clear hcb hk0
              rw [← hc] at g97 g122 g65 g90 g48 g57 g95
              clear hc hc0
              go_wp2_with fail
              go_roundw
              case rel => exact ⟨k + 1, by omega, by simp, HG.out, HW.out, by first | rfl | trivial⟩
              case measure =>
                show s.size - ((k : Int) + 1).toNat < s.size - (k : Int).toNat
                omega
            · have g97 : decide ((97 : Int) ≤ c) = true := decide_eq_true (by omega)
              have g122 : decide (c ≤ 122) = false := decide_eq_false (by omega)
              have g65 : decide ((65 : Int) ≤ c) = true := decide_eq_true (by omega)
              have g90 : decide (c ≤ 90) = false := decide_eq_false (by omega)
              have g48 : decide ((48 : Int) ≤ c) = true := decide_eq_true (by omega)
              have g57 : decide (c ≤ 57) = false := decide_eq_false (by omega)
              have g95 : (c == 95) = false := by rw [beq_eq_false_iff_ne]; omega
              have HR := Lib.hid (show plainL s.data.toList = false from plain_first_no hp (by subst hk0; rw [HC.out]; simp only [smallI, Bool.and_eq_false_iff, decide_eq_false_iff_not]; omega))
              clear hcb hk0
              rw [← hc] at g97 g122 g65 g90 g48 g57 g95
              clear hc hc0
              go_wp2_with fail
              go_ret
              exact ⟨by rw [HR.out]; rfl, Below.refl _ _⟩
          · have hk0d : (((k : Nat) : Int) == 0) = false := by rw [beq_eq_false_iff_ne]; omega
            rcases hcb with hcb | hcb | hcb | hcb | hcb | hcb | hcb | hcb | hcb
            · have g97 : decide ((97 : Int) ≤ c) = false := decide_eq_false (by omega)
              have g122 : decide (c ≤ 122) = true := decide_eq_true (by omega)
              have g65 : decide ((65 : Int) ≤ c) = false := decide_eq_false (by omega)
              have g90 : decide (c ≤ 90) = true := decide_eq_true (by omega)
              have g48 : decide ((48 : Int) ≤ c) = false := decide_eq_false (by omega)
              have g57 : decide (c ≤ 57) = true := decide_eq_true (by omega)
              have g95 : (c == 95) = false := by rw [beq_eq_false_iff_ne]; omega
              have HR := Lib.hid (show plainL s.data.toList = false from plain_no hlt (by rw [head_eq hp]; exact HF.out (by omega)) (by rw [HC.out]; simp only [wordI, smallI, Bool.or_eq_false_iff, Bool.and_eq_false_iff, decide_eq_false_iff_not]; omega))
              clear hcb hk0
              rw [← hc] at g97 g122 g65 g90 g48 g57 g95
              clear hc hc0
              go_wp2_with fail
              go_ret
              exact ⟨by rw [HR.out]; rfl, Below.refl _ _⟩
            · have g97 : decide ((97 : Int) ≤ c) = false := decide_eq_false (by omega)
              have g122 : decide (c ≤ 122) = true := decide_eq_true (by omega)
              have g65 : decide ((65 : Int) ≤ c) = false := decide_eq_false (by omega)
              have g90 : decide (c ≤ 90) = true := decide_eq_true (by omega)
              have g48 : decide ((48 : Int) ≤ c) = true := decide_eq_true (by omega)
              have g57 : decide (c ≤ 57) = true := decide_eq_true (by omega)
              have g95 : (c == 95) = false := by rw [beq_eq_false_iff_ne]; omega
              have HW := Lib.hid (show Upto s (k + 1) from upto_succ hlt HU.out (by rw [HC.out]; simp only [wordI, smallI, Bool.or_eq_true, Bool.and_eq_true, decide_eq_true_eq]; omega))
              have HG := Lib.hid (show 0 < k + 1 → smallI ((s[0]'hp).toNat : Int) = true from fun _ => HF.out (by omega))
              clear hcb hk0
              rw [← hc] at g97 g122 g65 g90 g48 g57 g95
              clear hc hc0
              go_wp2_with fail
              go_roundw
              case rel => exact ⟨k + 1, by omega, by simp, HG.out, HW.out, by first | rfl | trivial⟩
              case measure =>
                show s.size - ((k : Int) + 1).toNat < s.size - (k : Int).toNat
                omega
            · have g97 : decide ((97 : Int) ≤ c) = false := decide_eq_false (by omega)
              have g122 : decide (c ≤ 122) = true := decide_eq_true (by omega)
              have g65 : decide ((65 : Int) ≤ c) = false := decide_eq_false (by omega)
              have g90 : decide (c ≤ 90) = true := decide_eq_true (by omega)
              have g48 : decide ((48 : Int) ≤ c) = true := decide_eq_true (by omega)
              have g57 : decide (c ≤ 57) = false := decide_eq_false (by omega)
              have g95 : (c == 95) = false := by rw [beq_eq_false_iff_ne]; omega
              have HR := Lib.hid (show plainL s.data.toList = false from plain_no hlt (by rw [head_eq hp]; exact HF.out (by omega)) (by rw [HC.out]; simp only [wordI, smallI, Bool.or_eq_false_iff, Bool.and_eq_false_iff, decide_eq_false_iff_not]; omega))
              clear hcb hk0
              rw [← hc] at g97 g122 g65 g90 g48 g57 g95
              clear hc hc0
              go_wp2_with fail
              go_ret
              exact ⟨by rw [HR.out]; rfl, Below.refl _ _⟩
            · have g97 : decide ((97 : Int) ≤ c) = false := decide_eq_false (by omega)
              have g122 : decide (c ≤ 122) = true := decide_eq_true (by omega)
              have g65 : decide ((65 : Int) ≤ c) = true := decide_eq_true (by omega)
              have g90 : decide (c ≤ 90) = true := decide_eq_true (by omega)
              have g48 : decide ((48 : Int) ≤ c) = true := decide_eq_true (by omega)
              have g57 : decide (c ≤ 57) = false := decide_eq_false (by omega)
              have g95 : (c == 95) = false := by rw [beq_eq_false_iff_ne]; omega
              have HW := Lib.hid (show Upto s (k + 1) from upto_succ hlt HU.out (by rw [HC.out]; simp only [wordI, smallI, Bool.or_eq_true, Bool.and_eq_true, decide_eq_true_eq]; omega))
              have HG := Lib.hid (show 0 < k + 1 → smallI ((s[0]'hp).toNat : Int) = true from fun _ => HF.out (by omega))
              clear hcb hk0
              rw [← hc] at g97 g122 g65 g90 g48 g57 g95
              clear hc hc0
              go_wp2_with fail
              go_roundw
              case rel => exact ⟨k + 1, by omega, by simp, HG.out, HW.out, by first | rfl | trivial⟩
              case measure =>
                show s.size - ((k : Int) + 1).toNat < s.size - (k : Int).toNat
                omega
            · have g97 : decide ((97 : Int) ≤ c) = false := decide_eq_false (by omega)
              have g122 : decide (c ≤ 122) = true := decide_eq_true (by omega)
              have g65 : decide ((65 : Int) ≤ c) = true := decide_eq_true (by omega)
              have g90 : decide (c ≤ 90) = false := decide_eq_false (by omega)
              have g48 : decide ((48 : Int) ≤ c) = true := decide_eq_true (by omega)
              have g57 : decide (c ≤ 57) = false := decide_eq_false (by omega)
              have g95 : (c == 95) = false := by rw [beq_eq_false_iff_ne]; omega
              have HR := Lib.hid (show plainL s.data.toList = false from plain_no hlt (by rw [head_eq hp]; exact HF.out (by omega)) (by rw [HC.out]; simp only [wordI, smallI, Bool.or_eq_false_iff, Bool.and_eq_false_iff, decide_eq_false_iff_not]; omega))
              clear hcb hk0
              rw [← hc] at g97 g122 g65 g90 g48 g57 g95
              clear hc hc0
              go_wp2_with fail
              go_ret
              exact ⟨by rw [HR.out]; rfl, Below.refl _ _⟩
            · have g97 : decide ((97 : Int) ≤ c) = false := decide_eq_false (by omega)
              have g122 : decide (c ≤ 122) = true := decide_eq_true (by omega)
              have g65 : decide ((65 : Int) ≤ c) = true := decide_eq_true (by omega)
              have g90 : decide (c ≤ 90) = false := decide_eq_false (by omega)
              have g48 : decide ((48 : Int) ≤ c) = true := decide_eq_true (by omega)
              have g57 : decide (c ≤ 57) = false := decide_eq_false (by omega)
              have g95 : (c == 95) = true := by simp only [beq_iff_eq]; omega
              have HW := Lib.hid (show Upto s (k + 1) from upto_succ hlt HU.out (by rw [HC.out]; simp only [wordI, smallI, Bool.or_eq_true, Bool.and_eq_true, decide_eq_true_eq]; omega))
              have HG := Lib.hid (show 0 < k + 1 → smallI ((s[0]'hp).toNat : Int) = true from fun _ => HF.out (by omega))
              clear hcb hk0
              rw [← hc] at g97 g122 g65 g90 g48 g57 g95
              clear hc hc0
              go_wp2_with fail
              go_roundw
              case rel => exact ⟨k + 1, by omega, by simp, HG.out, HW.out, by first | rfl | trivial⟩
              case measure =>
                show s.size - ((k : Int) + 1).toNat < s.size - (k : Int).toNat
                omega
            · have g97 : decide ((97 : Int) ≤ c) = false := decide_eq_false (by omega)
              have g122 : decide (c ≤ 122) = true := decide_eq_true (by omega)
              have g65 : decide ((65 : Int) ≤ c) = true := decide_eq_true (by omega)
              have g90 : decide (c ≤ 90) = false := decide_eq_false (by omega)
              have g48 : decide ((48 : Int) ≤ c) = true := decide_eq_true (by omega)
              have g57 : decide (c ≤ 57) = false := decide_eq_false (by omega)
              have g95 : (c == 95) = false := by rw [beq_eq_false_iff_ne]; omega
              have HR := Lib.hid (show plainL s.data.toList = false from plain_no hlt (by rw [head_eq hp]; exact HF.out (by omega)) (by rw [HC.out]; simp only [wordI, smallI, Bool.or_eq_false_iff, Bool.and_eq_false_iff, decide_eq_false_iff_not]; omega))
              clear hcb hk0
              rw [← hc] at g97 g122 g65 g90 g48 g57 g95
              clear hc hc0
              go_wp2_with fail
              go_ret
              exact ⟨by rw [HR.out]; rfl, Below.refl _ _⟩
            · have g97 : decide ((97 : Int) ≤ c) = true := decide_eq_true (by omega)
              have g122 : decide (c ≤ 122) = true := decide_eq_true (by omega)
              have g65 : decide ((65 : Int) ≤ c) = true := decide_eq_true (by omega)
              have g90 : decide (c ≤ 90) = false := decide_eq_false (by omega)
              have g48 : decide ((48 : Int) ≤ c) = true := decide_eq_true (by omega)
              have g57 : decide (c ≤ 57) = false := decide_eq_false (by omega)
              have g95 : (c == 95) = false := by rw [beq_eq_false_iff_ne]; omega
              have HW := Lib.hid (show Upto s (k + 1) from upto_succ hlt HU.out (by rw [HC.out]; simp only [wordI, smallI, Bool.or_eq_true, Bool.and_eq_true, decide_eq_true_eq]; omega))
              have HG := Lib.hid (show 0 < k + 1 → smallI ((s[0]'hp).toNat : Int) = true from fun _ => HF.out (by omega))
              clear hcb hk0
              rw [← hc] at g97 g122 g65 g90 g48 g57 g95
              clear hc hc0
              go_wp2_with fail
              go_roundw
              case rel => exact ⟨k + 1, by omega, by simp, HG.out, HW.out, by first | rfl | trivial⟩
              case measure =>
                show s.size - ((k : Int) + 1).toNat < s.size - (k : Int).toNat
                omega
            · have g97 : decide ((97 : Int) ≤ c) = true := decide_eq_true (by omega)
              have g122 : decide (c ≤ 122) = false := decide_eq_false (by omega)
              have g65 : decide ((65 : Int) ≤ c) = true := decide_eq_true (by omega)
              have g90 : decide (c ≤ 90) = false := decide_eq_false (by omega)
              have g48 : decide ((48 : Int) ≤ c) = true := decide_eq_true (by omega)
              have g57 : decide (c ≤ 57) = false := decide_eq_false (by omega)
              have g95 : (c == 95) = false := by rw [beq_eq_false_iff_ne]; omega
              have HR := Lib.hid (show plainL s.data.toList = false from plain_no hlt (by rw [head_eq hp]; exact HF.out (by omega)) (by rw [HC.out]; simp only [wordI, smallI, Bool.or_eq_false_iff, Bool.and_eq_false_iff, decide_eq_false_iff_not]; omega))
              clear hcb hk0
              rw [← hc] at g97 g122 g65 g90 g48 g57 g95
              clear hc hc0
              go_wp2_with fail
              go_ret
              exact ⟨by rw [HR.out]; rfl, Below.refl _ _⟩
        · have hd : decide ((k : Int) < (s.size : Int)) = false := decide_eq_false (by omega)
          obtain rfl : k = s.size := by omega
          have HR := Lib.hid (show plainL s.data.toList = true from plain_yes HN.out hp (by rw [head_eq hp]; exact HF.out hp) HU.out)
          go_wp2_with fail
          go_ret
          exact ⟨by rw [HR.out]; rfl, Below.refl _ _⟩
end Go.Proofs.YtminbdcabacfbaaGreatDoor.V

namespace Go.Proofs.YtminbdcabacfbaaGreatDoor.V
set_option linter.unusedVariables false
set_option linter.unusedSimpArgs false
open Go.RowKit

section
variable {T : Nat} {v0 v1 v2 : Value} {w : World}
end
section
variable {T : Nat} {v0 v1 v2 v3 v4 : Value} {w : World}
end
def IsAt (T : Nat) (v0 v1 : Value) (w : World) : Prop := w.heap[T]? = some (.cells #[v0, v1] 25 (0, 0))
section
variable {T : Nat} {v0 v1 : Value} {w : World}
theorem IsAt.c0 (h : IsAt T v0 v1 w) : w.cell? ⟨T, 0, none⟩ = some v0 := cell_of_row w T 0 _ _ _ h
theorem IsAt.c1 (h : IsAt T v0 v1 w) : w.cell? ⟨T, 1, none⟩ = some v1 := cell_of_row w T 1 _ _ _ h
theorem IsAt.fr (h : IsAt T v0 v1 w) (i : Nat) : w.frozen? ⟨T, i, none⟩ = false := frozen_of_row w T i _ _ h
theorem IsAt.lt (h : IsAt T v0 v1 w) : T < w.heap.size := (Array.getElem?_eq_some_iff.1 h).1
theorem IsAt.below {w' : World} (h : IsAt T v0 v1 w) (hb : Below w.heap.size w w') : IsAt T v0 v1 w' := (hb.block T h.lt).trans h
theorem IsAt.alloc (h : IsAt T v0 v1 w) (o : Obj) : IsAt T v0 v1 (w.alloc o) := h.below ((Below.refl _ _).alloc (Nat.le_refl _) o)
theorem IsAt.grown {w' : World} {row : Option Nat} (h : IsAt T v0 v1 w) (hg : w.grownBy w' row) (hne : some T ≠ row) : IsAt T v0 v1 w' := (hg.block T h.lt hne).trans h
theorem IsAt.new (w : World) : IsAt w.heap.size v0 v1 (w.alloc (.cells #[v0, v1] 25)) := heap_alloc_new w _
theorem IsAt.far {T2 : Nat} (h : IsAt T v0 v1 w) (hne : T ≠ T2) (i : Nat) (v : Value) : IsAt T v0 v1 (w.setCell ⟨T2, i, none⟩ v) := (Below.heap_setCell _ _ _ _ hne).trans h
end
theorem IsAt.set0 {T : Nat} {v0 v1 : Value} {w : World} (h : IsAt T v0 v1 w) (u : Value) : IsAt T u v1 (w.setCell ⟨T, 0, none⟩ u) := set_block h u
theorem IsAt.set1 {T : Nat} {v0 v1 : Value} {w : World} (h : IsAt T v0 v1 w) (u : Value) : IsAt T v0 u (w.setCell ⟨T, 1, none⟩ u) := set_block h u
abbrev IsAtSet (T : Nat) (u0 u1 : Value) (w : World) : World := ((w.setCell ⟨T, 0, none⟩ u0).setCell ⟨T, 1, none⟩ u1)
theorem IsAt.set {T : Nat} {v0 v1 : Value} {w : World} (h : IsAt T v0 v1 w) (u0 u1 : Value) : IsAt T u0 u1 (IsAtSet T u0 u1 w) := ((h.set0 u0).set1 u1)
end Go.Proofs.YtminbdcabacfbaaGreatDoor.V

namespace Go.Proofs.YtminbdcabacfbaaGreatDoor.V
set_option linter.unusedVariables false
set_option linter.unusedSimpArgs false
open Go.RowKit

def digP (d : Nat) : UInt8 := UInt8.ofNat (48 + d)
theorem digP_val (d : Nat) (h : d < 10) : ((digP d).toNat : Int) = 48 + (d : Int) := by
  unfold digP
  rw [UInt8.toNat_ofNat']
  omega
theorem itoa_nat (u : Nat) : Lib.itoa (u : Int) = Lib.decDigits u := by
  unfold Lib.itoa
  rw [if_neg (by omega)]
  rfl
theorem itoa_negS (u : Nat) (h : 0 < u) : Lib.itoa (-(u : Int)) = 45 :: Lib.decDigits u := by
  unfold Lib.itoa
  rw [if_pos (by omega), Int.natAbs_neg]
  rfl
theorem itoa_pos1 (u : Nat) (h : u < 10) : Lib.itoa (u : Int) = [digP u] := by rw [itoa_nat, dig_eq, if_pos h]; rfl
theorem itoa_pos2 (u : Nat) (h : 10 ≤ u) : Lib.itoa (u : Int) = Lib.itoa ((u / 10 : Nat) : Int) ++ [digP (u % 10)] := by rw [itoa_nat, itoa_nat, dig_eq u, if_neg (by omega)]; rfl
theorem itoa_neg1 (u : Nat) (h0 : 0 < u) (h : u < 10) : Lib.itoa (-(u : Int)) = [45, digP u] := by rw [itoa_negS u h0, dig_eq, if_pos h]; rfl
theorem itoa_neg2 (u : Nat) (h : 10 ≤ u) : Lib.itoa (-(u : Int)) = Lib.itoa (-((u / 10 : Nat) : Int)) ++ [digP (u % 10)] := by rw [itoa_negS u (by omega), itoa_negS (u / 10) (by omega), dig_eq u, if_neg (by omega)]; rfl
theorem string_app (a b : List UInt8) : (⟨a.toArray⟩ : ByteArray) ++ ⟨b.toArray⟩ = ⟨(a ++ b).toArray⟩ := by
  apply ByteArray.ext
  simp [ByteArray.data_append]

theorem conv_at (b : UInt8) (W : World) (G : Nat) (h : W.cell? ⟨G, 0, none⟩ = some (.int .u8 (b.toNat : Int))) : (convert 82 9 (.slice (some ⟨G, 0, none⟩) 1 1)).run Tryz.prog W = .ok (.string ⟨#[b]⟩) W := by
  refine Lib.run_convert_whole (P := Tryz.prog) _ 82 5 9 Tryz.underlying82 Tryz.underlying5 Tryz.underlying9 G 0 ⟨#[b]⟩ (fun i hi => ?_) 1
  have hi' : i < 1 := hi
  obtain rfl : i = 0 := by omega
  exact h

theorem cell_new1 (w : World) (x : Value) : (w.alloc (.cells #[x] 5)).drew.cell? ⟨w.heap.size, 0, none⟩ = some x := cell_of_row _ _ 0 _ _ _ (heap_alloc_new w _)

set_option maxRecDepth 100000 in
set_option maxHeartbeats 4000000 in
theorem fig_calls (N : Nat) : ∀ (n : Int) (w : World), n.natAbs ≤ N → -9223372036854775808 ≤ n → n ≤ 9223372036854775807 →
    Calls Tryz.prog 43 #[.int .i64 n] w fun e w' => e = .returned (.string ⟨(Lib.itoa n).toArray⟩) ∧ Below w.heap.size w w' := by
  induction N using Nat.strongRecOn with
  | _ N ih =>
    intro n w hN h0 h1
    by_cases hs : n < 0
    · have d0 : decide (n < 0) = true := decide_eq_true hs
      obtain ⟨u, hu⟩ : ∃ u : Nat, n = -(u : Int) := ⟨n.natAbs, by omega⟩
      have et : n.tmod 10 = -((u % 10 : Nat) : Int) := by rw [hu, Int.neg_tmod]; rfl
      have eq : n.tdiv 10 = -((u / 10 : Nat) : Int) := by rw [hu, Int.neg_tdiv]; rfl
      have ed : wrap64 (48 - n.tmod 10) % 256 = ((digP (u % 10)).toNat : Int) := by
        rw [et, digP_val _ (by omega)]
        unfold wrap64
        omega
      have hcv := conv_one (digP (u % 10)) w
      clear et
      by_cases hb : u < 10
      · have d1 : decide ((-10 : Int) < n) = true := decide_eq_true (by omega)
        have HE := Lib.hid (show (⟨#[45]⟩ : ByteArray) ++ ⟨#[digP (u % 10)]⟩ = ⟨(Lib.itoa n).toArray⟩ by
          rw [hu, itoa_neg1 u (by omega) hb, Nat.mod_eq_of_lt hb]
          rfl)
        have HB := Lib.hid ((Below.refl w.heap.size w).alloc (Nat.le_refl _) (.cells #[.int .u8 ((digP (u % 10)).toNat : Int)] 5))
        clear hb hs hN h0 h1 eq hu ih
        go_enter Tryz.func43, Tryz.ntmps43
        go_wp2_with fail
        go_ret
        exact ⟨by rw [← HE.out]; rfl, HB.out⟩
      · have d1 : decide ((-10 : Int) < n) = false := decide_eq_false (by omega)
        have hc := ih (u / 10) (by omega) (n.tdiv 10)
        have HC := Lib.hid (fun W => hc W (by omega) (by omega) (by omega))
        have HE := Lib.hid (show (⟨(Lib.itoa (n.tdiv 10)).toArray⟩ : ByteArray) ++ ⟨#[digP (u % 10)]⟩ = ⟨(Lib.itoa n).toArray⟩ by
          rw [eq, hu, itoa_neg2 u (by omega)]
          exact string_app _ [digP (u % 10)])
        have HB := Lib.hid ((Below.refl w.heap.size w).alloc (Nat.le_refl _) (.cells #[.int .u8 ((digP (u % 10)).toNat : Int)] 5))
        have ew : wrap64 (n.tdiv 10) = n.tdiv 10 := by rw [eq]; unfold wrap64; omega
        have hFs : (⟨(Lib.itoa (n.tdiv 10)).toArray⟩ : ByteArray).size ≤ 21 := Lib.itoa_length_le _ (by omega) (by omega)
        obtain ⟨F, hF⟩ : ∃ F, (⟨(Lib.itoa (n.tdiv 10)).toArray⟩ : ByteArray) = F := ⟨_, rfl⟩
        rw [hF] at hFs HC HE
        have hadd : ∀ w, (Op.stringOp .add F ⟨#[digP (u % 10)]⟩).run Tryz.prog w = .ok (.string (F ++ ⟨#[digP (u % 10)]⟩)) w := fun w => run_string_add_sum w _ _ (by have : (⟨#[digP (u % 10)]⟩ : ByteArray).size = 1 := rfl; omega)
        clear hb hs hN h0 h1 hc ih eq hu hF hFs
        go_enter Tryz.func43, Tryz.ntmps43
        go_wp2_with fail
        refine (HC.out _).mono ?_
        rintro e w2 ⟨rfl, hb⟩
        have hb2 := below_then HB.out hb HB.out.size
        go_wp2_with fail
        go_ret
        exact ⟨by rw [← HE.out]; rfl, hb2⟩
    · have d0 : decide (n < 0) = false := decide_eq_false hs
      obtain ⟨u, rfl⟩ : ∃ u : Nat, n = (u : Int) := ⟨n.toNat, by omega⟩
      by_cases hb : u < 10
      · have d1 : decide ((u : Int) < 10) = true := decide_eq_true (by omega)
        have ed : (48 : Int) + (u : Int) = ((digP u).toNat : Int) := (digP_val u hb).symm
        have hcv := conv_one (digP u) w
        have HE := Lib.hid (show (⟨#[digP u]⟩ : ByteArray) = ⟨(Lib.itoa (u : Int)).toArray⟩ by rw [itoa_pos1 u hb])
        have HB := Lib.hid ((Below.refl w.heap.size w).alloc (Nat.le_refl _) (.cells #[.int .u8 ((digP u).toNat : Int)] 5))
        clear hs hN h1 ih h0
        go_enter Tryz.func43, Tryz.ntmps43
        go_wp2_with fail
        go_ret
        exact ⟨by rw [← HE.out]; rfl, HB.out⟩
      · have hu : ∃ n : Int, n = (u : Int) := ⟨_, rfl⟩
        obtain ⟨n, hu⟩ := hu
        rw [← hu] at d0 h0 h1 ⊢
        have d1 : decide (n < 10) = false := decide_eq_false (by omega)
        have et : n.tmod 10 = ((u % 10 : Nat) : Int) := by rw [hu]; rfl
        have eq : n.tdiv 10 = ((u / 10 : Nat) : Int) := by rw [hu]; rfl
        have ed : IntKind.u8.wrap (IntKind.i64.wrap (48 + n.tmod 10)) = ((digP (u % 10)).toNat : Int) := by
          rw [et, digP_val _ (by omega)]
          simp [IntKind.wrap, IntKind.min, IntKind.max, IntKind.bits, IntKind.signed]
          omega
        have hc := ih (u / 10) (by omega) (n.tdiv 10)
        have HC := Lib.hid (fun W => hc W (by omega) (by omega) (by omega))
        have HE := Lib.hid (show (⟨(Lib.itoa (n.tdiv 10)).toArray⟩ : ByteArray) ++ ⟨#[digP (u % 10)]⟩ = ⟨(Lib.itoa n).toArray⟩ by
          rw [eq, hu, itoa_pos2 u (by omega)]
          exact string_app _ [digP (u % 10)])
        have ew : IntKind.i64.wrap (n.tdiv 10) = n.tdiv 10 := by rw [eq]; simp [IntKind.wrap, IntKind.min, IntKind.max, IntKind.bits, IntKind.signed]; omega
        have hcv : ∀ (W : World) (G : Nat), W.cell? ⟨G, 0, none⟩ = some (.int .u8 (IntKind.u8.wrap (IntKind.i64.wrap (48 + n.tmod 10)))) → (convert 82 9 (.slice (some ⟨G, 0, none⟩) 1 1)).run Tryz.prog W = .ok (.string ⟨#[digP (u % 10)]⟩) W := fun W G h => conv_at _ W G (by rw [← ed]; exact h)
        have hcv1 : ∀ (W : World), (convert 82 9 (.slice (some ⟨W.heap.size, 0, none⟩) 1 1)).run Tryz.prog (W.alloc (.cells #[.int .u8 (IntKind.u8.wrap (IntKind.i64.wrap (48 + n.tmod 10)))] 5)) = .ok (.string ⟨#[digP (u % 10)]⟩) (W.alloc (.cells #[.int .u8 (IntKind.u8.wrap (IntKind.i64.wrap (48 + n.tmod 10)))] 5)) := fun W => hcv _ _ (cell_of_row _ _ 0 _ _ _ (heap_alloc_new W _))
        have hcv2 : (convert 82 9 (.slice (some ⟨w.heap.size, 0, none⟩) 1 1)).run Tryz.prog (w.alloc (.cells #[.int .u8 (IntKind.u8.wrap (IntKind.i64.wrap (48 + n.tmod 10)))] 5)).drew = .ok (.string ⟨#[digP (u % 10)]⟩) (w.alloc (.cells #[.int .u8 (IntKind.u8.wrap (IntKind.i64.wrap (48 + n.tmod 10)))] 5)).drew := hcv _ _ (cell_of_row _ _ 0 _ _ _ (heap_alloc_new w _))
        have hcv3 : (convert 82 9 (.slice (some ⟨w.heap.size, 0, none⟩) 1 1)).run Tryz.prog (w.drew.alloc (.cells #[.int .u8 (IntKind.u8.wrap (IntKind.i64.wrap (48 + n.tmod 10)))] 5)) = .ok (.string ⟨#[digP (u % 10)]⟩) (w.drew.alloc (.cells #[.int .u8 (IntKind.u8.wrap (IntKind.i64.wrap (48 + n.tmod 10)))] 5)) := hcv _ _ (cell_of_row _ _ 0 _ _ _ (heap_alloc_new w.drew _))
        have HCV := Lib.hid hcv
        have hFs : (⟨(Lib.itoa (n.tdiv 10)).toArray⟩ : ByteArray).size ≤ 21 := Lib.itoa_length_le _ (by omega) (by omega)
        obtain ⟨F, hF⟩ : ∃ F, (⟨(Lib.itoa (n.tdiv 10)).toArray⟩ : ByteArray) = F := ⟨_, rfl⟩
        rw [hF] at hFs HC HE
        have hadd : ∀ w, (Op.stringOp .add F ⟨#[digP (u % 10)]⟩).run Tryz.prog w = .ok (.string (F ++ ⟨#[digP (u % 10)]⟩)) w := fun w => run_string_add_sum w _ _ (by have : (⟨#[digP (u % 10)]⟩ : ByteArray).size = 1 := rfl; omega)
        clear hb hs hN h0 h1 hc ih eq et hu hF hFs ed
        go_enter Tryz.func43, Tryz.ntmps43
        go_wp2_with fail
        go_region_with (go_at_call 43; (first | rw [ew] | skip); with_reducible refine (HC.out _).mono ?_; rintro e wn ⟨rfl, hbn⟩; (refine (have hn : Below w.heap.size w wn := ?_; ?_); focus (refine below_then' ?_ hbn (Nat.le_refl _); (focus (repeat (first | with_reducible assumption | with_reducible exact Below.refl _ _ | with_reducible apply Below.drew | (with_reducible refine Below.alloc ?_ ?_ _; rotate_left; focus ((first | omega | (simp <;> omega)); done))))); done)); (have hz := hn.size); (first | (refine (have hcell : (convert 82 9 (.slice (some ⟨w.heap.size, 0, none⟩) 1 1)).run Tryz.prog wn = .ok (.string ⟨#[digP (u % 10)]⟩) wn := ?_; ?_); focus (refine HCV.out _ _ (cell_below hbn ?_); with_reducible exact cell_new1 w _; done)) | (have hnone : Below w.drew.heap.size w.drew wn := hbn)))
        all_goals
          go_wp2_with fail
          go_ret
          refine ⟨by rw [← HE.out]; rfl, ?_⟩
          (focus (repeat (first | with_reducible assumption | with_reducible exact Below.refl _ _ | with_reducible apply Below.drew | (with_reducible refine Below.alloc ?_ ?_ _; rotate_left; focus ((first | omega | (simp <;> omega)); done)))))
end Go.Proofs.YtminbdcabacfbaaGreatDoor.V

namespace Go.Proofs.YtminbdcabacfbaaGreatDoor.V
set_option linter.unusedVariables false
set_option linter.unusedSimpArgs false
open Go.RowKit

/-- The cells of a value's box, and what a call leaves of them. -/
structure Box (w : World) (b : Nat) (s : Bool) (t : ByteArray) (n : Int) : Prop where
  lt : b < w.heap.size
  c0 : w.cell? ⟨b, 0, none⟩ = some (.bool s)
  c1 : w.cell? ⟨b, 1, none⟩ = some (.string t)
  c2 : w.cell? ⟨b, 2, none⟩ = some (.int .i64 n)
theorem Box.below {w w' : World} {b : Nat} {s : Bool} {t : ByteArray} {n : Int} (h : Box w b s t n) (hb : Below w.heap.size w w') : Box w' b s t n :=
  ⟨Nat.lt_of_lt_of_le h.lt hb.size, cell_below hb h.c0, cell_below hb h.c1, cell_below hb h.c2⟩
theorem Box.new (w : World) (s : Bool) (t : ByteArray) (n : Int) : Box (w.alloc (.cells #[.bool s, .string t, .int .i64 n] 43)) w.heap.size s t n := by
  have h := heap_alloc_new w (.cells #[.bool s, .string t, .int .i64 n] 43)
  exact ⟨by simp, cell_of_row _ _ 0 _ _ _ h, cell_of_row _ _ 1 _ _ _ h, cell_of_row _ _ 2 _ _ _ h⟩
theorem Box.alloc {w : World} {b : Nat} {s : Bool} {t : ByteArray} {n : Int} (h : Box w b s t n) (o : Obj) : Box (w.alloc o) b s t n := h.below ((Below.refl _ _).alloc (Nat.le_refl _) o)

end Go.Proofs.YtminbdcabacfbaaGreatDoor.V

namespace Go.Proofs.YtminbdcabacfbaaGreatDoor.V
set_option linter.unusedVariables false
set_option linter.unusedSimpArgs false
open Go.RowKit

theorem own_one (w : World) (b : UInt8) : (w.alloc (.cells #[.int .u8 (b.toNat : Int)] 5)).ownsRow w.heap.size 5 1 (.slice (some ⟨w.heap.size, 0, none⟩) 1 1) 1 (bytesV [b]) :=
  ⟨rfl, .inr ⟨w.heap.size, 1, _, rfl, Nat.le_refl _, heap_alloc_new w _, Nat.le_refl _, by decide, rfl, rfl⟩⟩
/-- Bytes behind bytes. -/
theorem wp_app {ops : Array Oper} {rest : List Oper} {o : Oper} {a : Act} {Q : Exit → Act → World → Prop} {q : Nat} {w1 W : World} (hgd : o.guard = none) (s x : Operand)
    (ho : o.op = .call { callee := .builtin .append, args := #[s, x], argTypes := #[82, 82] })
    (v : Value) (n m : Nat) (xs news : List UInt8) (hs : a.eval s = v) (hown : W.ownsRow q 5 1 v n (bytesV xs)) (hm : news.length = m) (hx : a.eval x = .slice (some ⟨W.heap.size, 0, none⟩) m m)
    (hn : n + m ≤ 1099511627776) (hB : Below q w1 W) (hq : q ≤ W.heap.size)
    (h : ∀ A c W', W'.ownsRow q 5 1 (.slice A (n + m) c) (n + m) (bytesV (xs ++ news)) → Below q w1 W' → wpList Tryz.prog ops Q rest (a.put o.dst (.slice A (n + m) c)) W') :
    wpList Tryz.prog ops Q (o :: rest) a (W.alloc (.cells (bytesV news).toArray 5)) := by
  obtain ⟨i0, hi, hz0, hz1, hz2⟩ := info_parts infoByte
  refine wpList_append_own_at _ hgd s x 82 ho q 5 i0 (.int .u8 0) 1 1 Tryz.underlying82 hi hz0 hz1 hz2 rfl (by decide) v n (bytesV xs) hs (hown.alloc _) ⟨W.heap.size, 0, none⟩ m m (bytesV news) hx ?_ ?_ ?_ ?_ ?_ ?_ ?_
  · rw [bytesV_length, hm, Nat.mul_one]
  · intro j u hu
    have h1 := cell_of_row (W.alloc (.cells (bytesV news).toArray 5)) W.heap.size j _ _ _ (heap_alloc_new W _)
    rw [List.getElem?_toArray, hu] at h1
    have e : Addr.add ⟨W.heap.size, 0, none⟩ j = ⟨W.heap.size, j, none⟩ := by
      unfold Addr.add
      split <;> simp_all
    rw [e]
    exact h1
  · intro u hu
    obtain ⟨b, _, rfl⟩ := List.mem_map.1 hu
    rfl
  · unfold maxLen; omega
  · omega
  · rw [World.size_alloc]; omega
  intro v2 w2 hown2 hg2 _ _
  obtain ⟨A2, c2, rfl⟩ := own_slice hown2
  rw [← bytesV_append] at hown2
  refine h A2 c2 w2 hown2 ?_
  have h1 := hB.alloc hq (.cells (bytesV news).toArray 5)
  exact h1.grown hg2 (by rw [World.size_alloc]; omega) (fun r hr => own_from hown r hr)
/-- What is owned is read as a string. -/
theorem conv_own {q n c : Nat} {A : Option Addr} {W : World} {xs : List UInt8} (h : W.ownsRow q 5 1 (.slice A n c) n (bytesV xs)) (hx : 0 < xs.length) : (convert 82 9 (.slice A n c)).run Tryz.prog W = .ok (.string ⟨xs.toArray⟩) W := by
  have hl : xs.length = n := by have := h.1; rw [bytesV_length, Nat.mul_one] at this; exact this
  rcases h.2 with ⟨_, h2⟩ | ⟨g, cap, cur, hv, hg, hk, hnc, _, hcs, hcur⟩
  · omega
  · cases hv
    have hs : (⟨xs.toArray⟩ : ByteArray).size = n := by rw [← hl]; exact List.size_toArray
    rw [← hs]
    refine Lib.run_convert_whole (P := Tryz.prog) _ 82 5 9 Tryz.underlying82 Tryz.underlying5 Tryz.underlying9 g 0 ⟨xs.toArray⟩ (fun i hi => ?_) _
    have hi' : i < xs.length := by rw [hl, ← hs]; exact hi
    have h1 := cell_of_row W g i _ _ _ hk
    have h2 : cur[i]? = (bytesV xs)[i]? := by
      rw [← hcur, Nat.mul_one, List.getElem?_take_of_lt (by omega)]
      simp
    rw [h2] at h1
    rw [Nat.zero_add, h1]
    simp [bytesV, hi', ByteArray.getElem_eq_getElem_data]

set_option maxRecDepth 100000 in
set_option maxHeartbeats 8000000 in
theorem refText_calls (s : Bool) (t : ByteArray) (n : Int) (w : World) (ht : t.size ≤ 274877906944) (h0 : -9223372036854775808 ≤ n) (h1 : n ≤ 9223372036854775807) :
    Calls Tryz.prog 55 #[.agg #[.bool s, .string t, .int .i64 n]] w fun e w' => e = .returned (.string ⟨(textL s t.data.toList n).toArray⟩) ∧ Below w.heap.size w w' := by
  have HT := Lib.hid ht
  have HW := Lib.hid ((Below.refl w.heap.size w).alloc (Nat.le_refl _) (.cells #[.bool s, .string t, .int .i64 n] 43))
  have hbx := Box.new w s t n
  cases s with
  | false =>
    have HF := Lib.hid (fun W => fig_calls n.natAbs n W (Nat.le_refl _) h0 h1)
    clear h0 h1 ht hbx
    go_enter Tryz.func55, Tryz.ntmps55
    go_wp2_with fail
    refine (HF.out _).mono ?_
    rintro e w2 ⟨rfl, hb⟩
    have hb' := below_then HW.out hb HW.out.size
    go_wp2_with fail
    go_ret
    exact ⟨rfl, hb'⟩
  | true =>
    clear h0 h1
    obtain ⟨w1, hw1⟩ : ∃ w1, w.alloc (.cells #[.bool true, .string t, .int .i64 n] 43) = w1 := ⟨_, rfl⟩
    rw [hw1] at hbx HW
    have HX := Lib.hid hbx
    have E1 := Lib.hid hw1
    clear hw1 hbx
    have hmx : t.size ≤ 9223372036854775807 := by omega
    go_enter Tryz.func55, Tryz.ntmps55
    go_wp2_with fail
    rw [E1.out]
    refine (refPlain_calls _ _ (Nat.le_trans ht (by decide))).mono ?_
    rintro e w2 ⟨rfl, hb⟩
    have HX2 := Lib.hid (HX.out.below hb)
    have H2 := Lib.hid (below_then HW.out hb HW.out.size)
    have a1 := HX2.out.c1
    have hlen : t.data.toList.length = t.size := by simp
    clear hb HX E1 HW
    by_cases hy : plainL t.data.toList = true ∧ t.size ≤ 32
    · have HE := Lib.hid (show textL true t.data.toList n = t.data.toList from if_pos ⟨hy.1, by omega⟩)
      rw [hy.1]
      have hld : decide ((t.size : Int) ≤ 32) = true := decide_eq_true (by omega)
      clear hy hlen
      go_wp2_with fail
      go_ret
      exact ⟨by rw [HE.out, of_bytes]; rfl, H2.out⟩
    · have HE := Lib.hid (show textL true t.data.toList n = 39 :: escL t.data.toList ++ [39] from if_neg (fun h => hy ⟨h.1, by omega⟩))
      have HL := Lib.hid hlen
      have hkey : plainL t.data.toList = false ∨ (plainL t.data.toList = true ∧ decide ((t.size : Int) ≤ 32) = false) := by
        cases hp : plainL t.data.toList
        · exact .inl rfl
        · refine .inr ⟨rfl, decide_eq_false ?_⟩
          intro h
          exact hy ⟨hp, by omega⟩
      clear hy hlen
      rcases hkey with hp | ⟨hp, hld⟩
      all_goals
        rw [hp]
        go_wp2_with fail
        have hB0 : Below w2.heap.size w2 (w2.alloc (.cells #[.int .u8 39] 5)) := (Below.refl _ _).alloc (Nat.le_refl _) _
        go_loopw [3, 4] (fun v i wr => ∃ k m A c, k ≤ t.size ∧ i = .int .i64 (k : Nat) ∧ v = .slice A m c ∧ wr.ownsRow w2.heap.size 5 1 (.slice A m c) m (bytesV (39 :: escL (t.data.toList.take k))) ∧ Below w2.heap.size w2 wr) (fun _ i _ => t.size - (intOf i).toNat)
        case atStart => exact ⟨0, 1, _, 1, by omega, rfl, rfl, own_one w2 39, hB0⟩
        case round =>
          obtain ⟨k, m, A, c, hk, rfl, rfl, hown, hB⟩ := hrel
          have hb1 := HX2.out.below hB
          have a1 := hb1.c1
          have HB := Lib.hid hB
          have HO := Lib.hid hown
          have hm : m ≤ 549755813889 := by
            have h1 := hown.1
            have h2 : (escL (t.data.toList.take k)).length ≤ (escL t.data.toList).length := escL_take_le _ _
            have h3 := escL_length t.data.toList
            have h4 := cntS_le t.data.toList
            have h5 := HL.out
            rw [bytesV_length, List.length_cons] at h1
            omega
          have hq := hB.size
          clear hB hb1 hown
          by_cases hlt : k < t.size
          · have hd : decide ((k : Int) < (t.size : Int)) = true := decide_eq_true (by omega)
            have hkl : k < t.data.toList.length := by rw [HL.out]; exact hlt
            have HT1 := Lib.hid (escL_take_succ hkl)
            have hge : t.data.toList[k] = t[k]'hlt := by rw [ByteArray.getElem_eq_getElem_data]; simp
            rw [hge] at HT1
            obtain ⟨b, hb⟩ : ∃ b, t[k]'hlt = b := ⟨_, rfl⟩
            rw [hb] at HT1
            have HBB := Lib.hid hb
            clear hge hkl hb
            by_cases b10 : b = 10
            · have g10 : (((t[k]'hlt).toNat : Int) == 10) = true := by rw [HBB.out, b10]; rfl
              have HE1 := Lib.hid (show escB b = [92, 110] by rw [b10]; rfl)
              clear b10
              go_wp2_with (at_builtin; refine RowKit.Hid.out ?_)
              refine Lib.hid ?_
              refine wp_app rfl (.tmp 37) (.tmp 38) rfl _ m 2 _ [92, 110] rfl HO.out rfl rfl (by omega) HB.out hq ?_
              intro A2 c2 W2 hown2 hB2
              go_wp2_with fail
              refine ⟨⟨k + 1, m + 2, A2, c2, by omega, by simp, rfl, ?_, hB2⟩, ?_⟩
              · rw [show (39 :: escL (List.take (k + 1) t.data.toList)) = (39 :: escL (List.take k t.data.toList)) ++ [92, 110] by rw [HT1.out, HE1.out]; simp]
                exact hown2
              · show t.size - ((k : Int) + 1).toNat < t.size - (k : Int).toNat
                omega
            · have g10 : (((t[k]'hlt).toNat : Int) == 10) = false := by
                rw [beq_eq_false_iff_ne, HBB.out]
                intro h
                exact b10 (UInt8.toNat_inj.1 (by have : (10 : UInt8).toNat = 10 := rfl; omega))
              by_cases b92 : b = 92
              · have g92 : (((t[k]'hlt).toNat : Int) == 92) = true := by rw [HBB.out, b92]; rfl
                have HE1 := Lib.hid (show escB b = [92] ++ [t[k]'hlt] by rw [HBB.out, b92]; rfl)
                clear b10 b92
                go_wp2_with (at_builtin; refine RowKit.Hid.out ?_)
                refine Lib.hid ?_
                refine wp_app rfl (.tmp 46) (.tmp 47) rfl _ m 1 _ [92] rfl HO.out rfl rfl (by omega) HB.out hq ?_
                intro A2 c2 W2 hown2 hB2
                have HO2 := Lib.hid hown2
                have HB2 := Lib.hid hB2
                have hq2 := hB2.size
                clear hown2 hB2
                go_wp2_with (at_builtin; refine RowKit.Hid.out ?_)
                refine Lib.hid ?_
                refine wp_app rfl (.tmp 49) (.tmp 51) rfl _ (m + 1) 1 _ [t[k]'hlt] rfl HO2.out rfl rfl (by omega) HB2.out hq2 ?_
                intro A3 c3 W3 hown3 hB3
                go_wp2_with fail
                refine ⟨⟨k + 1, m + 1 + 1, A3, c3, by omega, by simp, rfl, ?_, hB3⟩, ?_⟩
                · rw [show (39 :: escL (List.take (k + 1) t.data.toList)) = ((39 :: escL (List.take k t.data.toList)) ++ [92]) ++ [t[k]'hlt] by rw [HT1.out, HE1.out]; simp]
                  exact hown3
                · show t.size - ((k : Int) + 1).toNat < t.size - (k : Int).toNat
                  omega
              · have g92 : (((t[k]'hlt).toNat : Int) == 92) = false := by
                  rw [beq_eq_false_iff_ne, HBB.out]
                  intro h
                  exact b92 (UInt8.toNat_inj.1 (by have : (92 : UInt8).toNat = 92 := rfl; omega))
                by_cases b39 : b = 39
                · have g39 : (((t[k]'hlt).toNat : Int) == 39) = true := by rw [HBB.out, b39]; rfl
                  have HE1 := Lib.hid (show escB b = [92] ++ [t[k]'hlt] by rw [HBB.out, b39]; rfl)
                  clear b10 b92 b39
                  go_wp2_with (at_builtin; refine RowKit.Hid.out ?_)
                  refine Lib.hid ?_
                  refine wp_app rfl (.tmp 46) (.tmp 47) rfl _ m 1 _ [92] rfl HO.out rfl rfl (by omega) HB.out hq ?_
                  intro A2 c2 W2 hown2 hB2
                  have HO2 := Lib.hid hown2
                  have HB2 := Lib.hid hB2
                  have hq2 := hB2.size
                  clear hown2 hB2
                  go_wp2_with (at_builtin; refine RowKit.Hid.out ?_)
                  refine Lib.hid ?_
                  refine wp_app rfl (.tmp 49) (.tmp 51) rfl _ (m + 1) 1 _ [t[k]'hlt] rfl HO2.out rfl rfl (by omega) HB2.out hq2 ?_
                  intro A3 c3 W3 hown3 hB3
                  go_wp2_with fail
                  refine ⟨⟨k + 1, m + 1 + 1, A3, c3, by omega, by simp, rfl, ?_, hB3⟩, ?_⟩
                  · rw [show (39 :: escL (List.take (k + 1) t.data.toList)) = ((39 :: escL (List.take k t.data.toList)) ++ [92]) ++ [t[k]'hlt] by rw [HT1.out, HE1.out]; simp]
                    exact hown3
                  · show t.size - ((k : Int) + 1).toNat < t.size - (k : Int).toNat
                    omega
                · have g39 : (((t[k]'hlt).toNat : Int) == 39) = false := by
                    rw [beq_eq_false_iff_ne, HBB.out]
                    intro h
                    exact b39 (UInt8.toNat_inj.1 (by have : (39 : UInt8).toNat = 39 := rfl; omega))
                  have HE1 := Lib.hid (show escB b = [t[k]'hlt] by
                    rw [HBB.out]
                    rcases escB_cases b with ⟨e, _⟩ | ⟨e, _⟩ | ⟨e, _⟩ | ⟨_, _, _, e⟩
                    · exact absurd e b10
                    · exact absurd e b39
                    · exact absurd e b92
                    · exact e)
                  clear b10 b92 b39
                  go_wp2_with (at_builtin; refine RowKit.Hid.out ?_)
                  refine Lib.hid ?_
                  refine wp_app rfl (.tmp 49) (.tmp 51) rfl _ m 1 _ [t[k]'hlt] rfl HO.out rfl rfl (by omega) HB.out hq ?_
                  intro A3 c3 W3 hown3 hB3
                  go_wp2_with fail
                  refine ⟨⟨k + 1, m + 1, A3, c3, by omega, by simp, rfl, ?_, hB3⟩, ?_⟩
                  · rw [show (39 :: escL (List.take (k + 1) t.data.toList)) = (39 :: escL (List.take k t.data.toList)) ++ [t[k]'hlt] by rw [HT1.out, HE1.out]; simp]
                    exact hown3
                  · show t.size - ((k : Int) + 1).toNat < t.size - (k : Int).toNat
                    omega
          · have hd : decide ((k : Int) < (t.size : Int)) = false := decide_eq_false (by omega)
            have HK := Lib.hid (show t.data.toList.take k = t.data.toList from List.take_of_length_le (by rw [HL.out]; omega))
            go_wp2_with (at_builtin; refine RowKit.Hid.out ?_)
            refine Lib.hid ?_
            refine wp_app rfl (.tmp 53) (.tmp 54) rfl _ m 1 _ [39] rfl HO.out rfl rfl (by omega) HB.out hq ?_
            intro A3 c3 W3 hown3 hB3
            have hcv := conv_own hown3 (by simp)
            rw [HK.out] at hcv
            go_wp2_with fail
            go_ret
            exact ⟨by rw [HE.out]; rfl, H2.out.trans (Below.mono hB3 H2.out.size)⟩
end Go.Proofs.YtminbdcabacfbaaGreatDoor.V

namespace Go.Proofs.YtminbdcabacfbaaGreatDoor.V
set_option linter.unusedVariables false
set_option linter.unusedSimpArgs false

theorem isTerm0_eq {t : TermL} (h : isTerm0 t = true) : t = term0 := by
  obtain ⟨v, x, s, y, n⟩ := t
  unfold isTerm0 at h
  simp at h
  simp [term0, h]
end Go.Proofs.YtminbdcabacfbaaGreatDoor.V

namespace Go.Proofs.YtminbdcabacfbaaGreatDoor.V
set_option linter.unusedVariables false
open Go.RowKit

theorem int_calls (n : Int) (w : World) : Calls Tryz.prog 94 #[.int .i64 n] w fun e w' => e = .returned (.agg #[.bool false, .string ⟨#[]⟩, .int .i64 n]) ∧ Below w.heap.size w w' := by
  go_enter Tryz.func94, Tryz.ntmps94
  go_wp2
  refine bodyPost_ret (v := .agg #[.bool false, .string ⟨#[]⟩, .int .i64 n]) (by simp [results, Tryz.results94, go_sem]) rfl ⟨rfl, (Below.refl _ _).alloc (Nat.le_refl _) _⟩
end Go.Proofs.YtminbdcabacfbaaGreatDoor.V
