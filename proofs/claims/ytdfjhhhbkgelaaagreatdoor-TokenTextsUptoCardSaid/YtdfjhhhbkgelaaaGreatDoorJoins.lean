/- token.Join: tokens as a text. -/
import Derived.Test.YtdfjhhhbkgelaaaGreatDoorSay
import Derived.Test.YtdfjhhhbkgelaaaGreatDoorRow
import Derived.Test.YtdfjhhhbkgelaaaGreatDoorScan
namespace Go.Proofs.YtdfjhhhbkgelaaaGreatDoor.V
set_option linter.unusedVariables false
set_option linter.unusedSimpArgs false
open Go.RowKit

/-- A token as it may lie anywhere: its parts are of no form. -/
structure GT where
  k : Int
  s : ByteArray
  n : Int
  q : Bool
  p : Int
structure TokHere (w : World) (a : Addr) (t : GT) : Prop where
  c0 : w.cell? a = some (.int .i64 t.k)
  c1 : w.cell? ⟨a.block, a.off + 1, none⟩ = some (.string t.s)
  c2 : w.cell? ⟨a.block, a.off + 2, none⟩ = some (.int .i64 t.n)
  c3 : w.cell? ⟨a.block, a.off + 3, none⟩ = some (.bool t.q)
  c4 : w.cell? ⟨a.block, a.off + 4, none⟩ = some (.int .i64 t.p)
theorem TokHere.below {w w' : World} {a : Addr} {t : GT} (h : TokHere w a t) (hb : Below w.heap.size w w') : TokHere w' a t :=
  ⟨cell_below hb h.c0, cell_below hb h.c1, cell_below hb h.c2, cell_below hb h.c3, cell_below hb h.c4⟩
def ToksAt (w : World) (A : Option Addr) (L : List GT) : Prop := ∀ (j : Nat) (t : GT), L[j]? = some t → ∃ a, A = some a ∧ TokHere w (a.add (j * 5)) t
theorem ToksAt.below {w w' : World} {A : Option Addr} {L : List GT} (h : ToksAt w A L) (hb : Below w.heap.size w w') : ToksAt w' A L := fun j t hj => by
  obtain ⟨a, h1, h2⟩ := h j t hj
  exact ⟨a, h1, h2.below hb⟩
def gtOf (p : TP') : GT := ⟨(p.1.k : Int), bs p.1.s, p.1.n, p.1.q, (p.2 : Int)⟩
theorem addr_add (g j : Nat) : Addr.add ⟨g, 0, none⟩ j = ⟨g, j, none⟩ := by
  unfold Addr.add
  split <;> simp_all
/-- Tokens that a scan has laid. -/
theorem toks_row {W : World} {B : Nat} {A : Option Addr} {c n : Nat} {L : List TP'} (h : W.ownsRow B 35 5 (.slice A n c) n (tokCells L)) (hn : n = L.length) : ToksAt W A (L.map gtOf) := by
  intro j t hj
  rw [List.getElem?_map, Option.map_eq_some_iff] at hj
  obtain ⟨p, hp, rfl⟩ := hj
  obtain ⟨g, rfl, hc⟩ := flat_row tokC (fun x => rfl) h hn hp
  refine ⟨_, rfl, ?_⟩
  rw [addr_add]
  exact ⟨hc 0 _ (by omega) rfl, hc 1 _ (by omega) rfl, hc 2 _ (by omega) rfl, hc 3 _ (by omega) rfl, hc 4 _ (by omega) rfl⟩

def GT.told (t : GT) : List UInt8 := toldL t.k t.s.data.toList t.n t.q
def joinG (l : List GT) : List UInt8 := l.flatMap fun t => t.told ++ [32]
theorem gt_told (p : TP') : (gtOf p).told = p.1.told := by
  unfold GT.told Tok.told gtOf
  rfl
theorem joinG_of (L : List TP') : joinG (L.map gtOf) = joinL (L.map Prod.fst) := by
  unfold joinG joinL
  rw [List.flatMap_map, List.flatMap_map]
  congr 1
theorem joinG_snoc {L : List GT} {k : Nat} {t : GT} (h : L[k]? = some t) : joinG (L.take (k + 1)) = joinG (L.take k) ++ (t.told ++ [32]) := by
  unfold joinG
  rw [List.take_add_one, List.flatMap_append, h]
  simp
theorem joinG_le (L : List GT) (k : Nat) : (joinG (L.take k)).length ≤ (joinG L).length := by
  conv => rhs; rw [← List.take_append_drop k L]
  unfold joinG
  rw [List.flatMap_append, List.length_append]
  omega
/-- Tokens whose parts are not too great. -/
def GTOk (t : GT) : Prop := t.s.size ≤ 1099511627776 ∧ -9223372036854775808 ≤ t.n ∧ t.n ≤ 9223372036854775807
theorem bs_append (a b : List UInt8) : bs a ++ bs b = bs (a ++ b) := by
  apply ByteArray.ext
  simp [bs, ByteArray.data_append]
theorem bs_cells (l : List UInt8) : Lib.strCells (bs l) = Lib.byteCells l := rfl
theorem bs_size (l : List UInt8) : (bs l).size = l.length := List.size_toArray

set_option maxRecDepth 100000 in
set_option maxHeartbeats 8000000 in
theorem join_calls (A : Option Addr) (n c : Nat) (L : List GT) (w : World) (hn : n = L.length) (hT : ToksAt w A L) (hok : ∀ t ∈ L, GTOk t) (hbig : (joinG L).length ≤ 140737488355328) (hn2 : n ≤ 9223372036854775806) (hw : TabW w) :
    Calls Tryz.prog 14 #[.slice A n c] w fun e w' => e = .returned (.string (bs (joinG L))) ∧ Below w.heap.size w w' := by
  have HT := Lib.hid hT
  have HOK := Lib.hid hok
  have HN := Lib.hid hn
  have HBIG := Lib.hid hbig
  have HW := Lib.hid hw
  have h0 := isbld_new w
  have HB0 := Lib.hid h0
  clear hT hok hn hbig hw h0
  go_enter Tryz.func14, Tryz.ntmps14
  go_wp2_with fail
  go_loopw [8] (fun i wr => ∃ k : Nat, k ≤ n ∧ i = .int .i64 (k : Int) ∧ IsBld w.heap.size w.heap.size (Lib.byteCells (joinG (L.take k))) wr ∧ Below w.heap.size w wr) (fun i _ => n + 1 - (intOf i).toNat)
  case atStart => exact ⟨0, Nat.zero_le _, rfl, HB0.out, (Below.refl w.heap.size w).alloc (Nat.le_refl _) _⟩
  case round =>
    obtain ⟨k, hk, rfl, hbld, hb⟩ := hrel
    have HBD := Lib.hid hbld
    have HB := Lib.hid hb
    by_cases hlt : k < n
    · have hd : decide ((k : Int) < (n : Int)) = true := decide_eq_true (by omega)
      obtain ⟨t, hx⟩ : ∃ t, L[k]? = some t := ⟨_, List.getElem?_eq_getElem (by rw [← HN.out]; exact hlt)⟩
      obtain ⟨a, rfl, hh⟩ := HT.out k t hx
      have hh2 := hh.below hb
      have hgt := HOK.out t (List.mem_of_getElem? hx)
      have hsn := joinG_snoc hx
      have hle := joinG_le L (k + 1)
      rw [hsn] at hle
      have hbg := HBIG.out
      obtain ⟨tk, ts, tn, tq, tp⟩ := t
      obtain ⟨E, hE⟩ : ∃ E, bs (GT.told ⟨tk, ts, tn, tq, tp⟩) = E := ⟨_, rfl⟩
      have hEs : E.size + 1 ≤ 140737488355328 := by
        rw [← hE, bs_size]
        simp only [List.length_append, List.length_singleton] at hle
        omega
      have hadd : ∀ w, (Op.stringOp .add E ⟨#[32]⟩).run Tryz.prog w = .ok (.string (E ++ ⟨#[32]⟩)) w := fun w => run_string_add_sum w _ _ (by have : (⟨#[32]⟩ : ByteArray).size = 1 := rfl; omega)
      have HTO := Lib.hid (fun (W : World) (h : TabW W) => (show Calls Tryz.prog 21 #[.agg #[.int .i64 tk, .string ts, .int .i64 tn, .bool tq, .int .i64 tp]] W (fun e w' => e = .returned (.string E) ∧ Below W.heap.size W w') from by rw [← hE]; exact told_calls tk ts tn tq tp W hgt.1 hgt.2.1 hgt.2.2 h))
      have HSN := Lib.hid (show joinG (L.take (k + 1)) = joinG (L.take k) ++ (E ++ ⟨#[32]⟩).data.toList from by rw [hsn, ← hE]; simp [bs, ByteArray.data_append])
      have HLE := Lib.hid (show (Lib.byteCells (joinG (L.take k))).length + (E ++ ⟨#[32]⟩).size ≤ 140737488355328 from by
        rw [Lib.byteCells_length, ByteArray.size_append, ← hE, bs_size]
        simp only [List.length_append, List.length_singleton] at hle
        have : (⟨#[32]⟩ : ByteArray).size = 1 := rfl
        omega)
      have d0 := hh2.c0
      have d1 := hh2.c1
      have d2 := hh2.c2
      have d3 := hh2.c3
      have d4 := hh2.c4
      have HWr := Lib.hid (HW.out.below hb)
      clear hbld hb hh hh2 hgt hsn hle hbg hE hEs hx
      go_wp2_with (first
        | (go_at_call 21; ((with_reducible refine (HTO.out _ (HWr.out.below ((Below.refl wr.heap.size wr).alloc (Nat.le_refl _) _))).mono ?_); rintro e w2 ⟨rfl, hb2⟩; have HBD2 := Lib.hid (isbld_below (HBD.out.alloc _) hb2); have HB2 := Lib.hid ((HB.out.alloc HB.out.size (.cells #[.int .i64 tk, .string ts, .int .i64 tn, .bool tq, .int .i64 tp] 35)).trans (hb2.mono (Nat.le_trans HB.out.size (by simp)))); clear hb2))
        | (go_at_call 20; ((with_reducible refine (bwrite_calls _ _ _ _ _ HBD2.out HLE.out HB2.out.size).mono ?_); rintro e w3 ⟨rfl, hbd3, hb3⟩; rw [Lib.strCells_eq, ← byteCells_app, ← HSN.out] at hbd3; have HBD3 := Lib.hid hbd3; have HB3 := Lib.hid (HB2.out.trans hb3); clear hbd3 hb3)))
      go_roundw
      case rel => exact ⟨k + 1, hlt, by simp, .inr HBD3.out, HB3.out⟩
      case measure => simp [intOf]; omega
    · have hkn : k = n := by omega
      subst hkn
      have hd : decide ((k : Int) < (k : Int)) = false := decide_eq_false (by omega)
      have hall : L.take k = L := List.take_of_length_le (by rw [← HN.out]; exact Nat.le_refl _)
      rw [hall] at hbld
      have HBD := Lib.hid hbld
      clear hb hlt hk hbld hall
      go_wp2_with (go_at_call 22; ((with_reducible refine (Tryz.Builder_String_any_k _ _ _ _ HBD.out HB.out.size).mono ?_); rintro e w2 ⟨rfl, _, hb2, _⟩; have HB2 := Lib.hid (HB.out.trans hb2); clear hb2))
      go_ret
      exact ⟨rfl, HB2.out⟩
end Go.Proofs.YtdfjhhhbkgelaaaGreatDoor.V
